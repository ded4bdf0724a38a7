/- The scripts' reader: paths. -/
import Derived.Test.YtcdhngppcpgojaaDoorScrRd
namespace Go.Proofs.YtcdhngppcpgojaaDoor
set_option linter.unusedSimpArgs false
set_option linter.unusedVariables false
open Go.RowKit
def lens (ws : List (List UInt8)) : Prop := ∀ x ∈ ws, x.length ≤ 600000000
theorem lens.head {ws : List (List UInt8)} (h : lens ws) : (ws.headD []).length ≤ 600000000 := by
  cases ws with
  | nil => simp
  | cons x ws => exact h x (List.mem_cons_self ..)
theorem lens.tail {ws : List (List UInt8)} (h : lens ws) : lens ws.tail := fun x hx => h x (List.mem_of_mem_tail hx)
/-- So many points. -/
def pts : Nat → List (List UInt8) → Option (List (Int × Int) × List (List UInt8))
  | 0, ws => some ([], ws)
  | k + 1, x :: y :: ws => match numI x, numI y, pts k ws with
    | some a, some b, some (l, r) => some ((a, b) :: l, r)
    | _, _, _ => none
  | _ + 1, _ => none
/-- How many points, and the points. -/
def pathO : List (List UInt8) → Option (List (Int × Int) × List (List UInt8))
  | [] => none
  | x :: ws => match numI x with
    | some n => if 0 ≤ n ∧ n ≤ 128 then pts n.toNat ws else none
    | none => none
theorem pathO_some {x : List UInt8} {n : Int} (ws : List (List UInt8)) (h : numI x = some n) : pathO (x :: ws) = if 0 ≤ n ∧ n ≤ 128 then pts n.toNat ws else none := by
  show (match numI x with | some n => if 0 ≤ n ∧ n ≤ 128 then pts n.toNat ws else none | none => none) = _
  rw [h]
theorem pathO_none {x : List UInt8} (ws : List (List UInt8)) (h : numI x = none) : pathO (x :: ws) = none := by
  show (match numI x with | some n => if 0 ≤ n ∧ n ≤ 128 then pts n.toNat ws else none | none => none) = _
  rw [h]
def app (l : List (Int × Int)) : Option (List (Int × Int) × List (List UInt8)) → Option (List (Int × Int) × List (List UInt8)) := Option.map (fun p => (l ++ p.1, p.2))
theorem app_nil (o : Option (List (Int × Int) × List (List UInt8))) : app [] o = o := by cases o <;> simp [app]
theorem pts_bad {ws : List (List UInt8)} (k : Nat) (h : numI (ws.headD []) = none ∨ numI (ws.tail.headD []) = none) : pts (k + 1) ws = none := by
  match ws with
  | [] => rfl
  | [x] => rfl
  | x :: y :: r =>
    simp only [List.headD_cons, List.tail_cons] at h
    unfold pts
    rcases h with h | h
    · rw [h]
    · rw [h]; cases numI x <;> rfl
theorem pts_good {ws : List (List UInt8)} (k : Nat) {a b : Int} (h1 : numI (ws.headD []) = some a) (h2 : numI (ws.tail.headD []) = some b) : pts (k + 1) ws = app [(a, b)] (pts k ws.tail.tail) := by
  match ws with
  | [] => cases h1
  | [x] => cases h2
  | x :: y :: r =>
    simp only [List.headD_cons, List.tail_cons] at h1 h2 ⊢
    rw [pts, h1, h2]
    cases pts k r with
    | none => rfl
    | some p => rfl
theorem app_app (l m : List (Int × Int)) (o : Option (List (Int × Int) × List (List UInt8))) : app l (app m o) = app (l ++ m) o := by
  cases o <;> simp [app]
theorem numI_in {x : List UInt8} {v : Int} (h : numI x = some v) : in64 v := by
  unfold numI at h
  rcases hu : Lib.atoiAll x with u | _ | _
  · skip
    rw [hu] at h
    simp only at h
    split at h
    · injection h with h; subst h; exact Lib.atoiAll_bounds hu
    · cases h
  · rw [hu] at h; cases h
  · rw [hu] at h; cases h
/-- The points so far. -/
structure PI (w : World) (b : Nat) (P : Option (List (Int × Int) × List (List UInt8))) (m k : Nat) (v : Value) (ws : List (List UInt8)) (bad : Bool) (wr : World) : Prop where
  n : NxP w b ws bad wr
  l : lens ws
  o : ∃ l : List (Int × Int), l.length = k ∧ wr.ownsRow w.heap.size TPt 2 v k (l.flatMap pEnc) ∧ (bad = false → P = app l (pts (m - k) ws) ∧ ∀ p ∈ l, in64 p.1 ∧ in64 p.2)
  t : bad = true → P = none
theorem PI.mk2 {w w' : World} {b m k : Nat} {P : Option (List (Int × Int) × List (List UInt8))} {v' : Value} {ws' : List (List UInt8)} {f2 : Bool} {l : List (Int × Int)} (hn : NxP w b ws'.tail.tail f2 w') (hl : lens ws') (hll : l.length = k) (hk : k < m) (hlp : P = app l (pts (m - k) ws') ∧ ∀ p ∈ l, in64 p.1 ∧ in64 p.2) (hf : f2 = ((numI (ws'.headD [])).isNone || (numI (ws'.tail.headD [])).isNone))
    (ho : w'.ownsRow w.heap.size TPt 2 v' (k + 1) (l.flatMap pEnc ++ [.int .i64 (valI (ws'.headD [])), .int .i64 (valI (ws'.tail.headD []))])) : PI w b P m (k + 1) v' ws'.tail.tail f2 w' := by
  obtain ⟨h1, h2⟩ := hlp
  refine ⟨hn, hl.tail.tail, ⟨l ++ [(valI (ws'.headD []), valI (ws'.tail.headD []))], by simp [hll], by simpa [pEnc] using ho, fun e => ?_⟩, fun e => ?_⟩
  · rw [hf, Bool.or_eq_false_iff] at e
    cases ha : numI (ws'.headD []) with
    | none => rw [ha] at e; simp at e
    | some a =>
      cases hd : numI (ws'.tail.headD []) with
      | none => rw [hd] at e; simp at e
      | some d =>
        rw [numI_val ha, numI_val hd]
        refine ⟨?_, fun p hp => ?_⟩
        · rw [h1, show m - k = (m - (k + 1)) + 1 by omega, pts_good _ ha hd, app_app]
        · rcases List.mem_append.1 hp with h | h
          · exact h2 p h
          · simp at h; subst h; exact ⟨numI_in ha, numI_in hd⟩
  · rw [hf, Bool.or_eq_true] at e
    rw [h1, show m - k = (m - (k + 1)) + 1 by omega, pts_bad _ (by rcases e with e | e; exact .inl (by simpa using e); exact .inr (by simpa using e))]
    rfl
theorem row_gb {w w1 w' : World} {b n size : Nat} {v : Value} {e : TypeId} {xs : List Value} (ho : w1.ownsRow w.heap.size e size v n xs) (hb : b < w.heap.size) (hg : w1.grownBy w' (some b)) : w'.ownsRow w.heap.size e size v n xs :=
  row_keep ho (fun g h => hg.block g (ho.lt g h).2 (fun e => by injection e with e; have := (ho.lt g h).1; omega))
def PaP (w : World) (b : Nat) (bad : Bool) (P : Option (List (Int × Int) × List (List UInt8))) (A : Option Addr) (n c : Nat) (w' : World) : Prop :=
  ∃ ws' bad', NxP w b ws' bad' w' ∧ lens ws' ∧ (bad = true → bad' = true) ∧ (bad = false → (bad' = true → P = none) ∧ (bad' = false → ∃ l, P = some (l, ws') ∧ l.length = n ∧ w'.ownsRow w.heap.size TPt 2 (.slice A n c) n (l.flatMap pEnc) ∧ ∀ p ∈ l, in64 p.1 ∧ in64 p.2))
set_option maxRecDepth 100000 in
set_option maxHeartbeats 2000000 in
theorem path_read (w : World) (base b : Nat) (ws : List (List UInt8)) (bad : Bool) (h : Rd w b ws bad) (ht : Wt base w) (hb : base ≤ b) (hl : lens ws) :
    Calls Tryd.prog 39 #[.pointer (some ⟨b, 0, none⟩)] w fun e w' => ∃ A n c, e = .returned (.slice A n c) ∧ PaP w b bad (pathO ws) A n c w' := by
  have hbw : b < w.heap.size := by obtain ⟨A, c, hr⟩ := h; exact hr.k.lt
  have HN := hide (int_any w base b ws bad h ht hb hl.head)
  have HT := hide ht
  have HL := hide hl
  obtain ⟨i0, hi0, hz0, hz1, hz2⟩ := info_parts pt_info
  have HI0 := hide hi0
  have HZ0 := hide hz0
  obtain ⟨N, hN⟩ : ∃ N, valI (ws.headD []) = N := ⟨_, rfl⟩
  obtain ⟨b1, hb1⟩ : ∃ b1, (bad || (numI (ws.headD [])).isNone) = b1 := ⟨_, rfl⟩
  rw [hN, hb1] at HN
  have hP : ∀ m : Nat, b1 = false → N = m → m ≤ 128 → pathO ws = pts m ws.tail := by
    intro m h1 h2 h3
    rw [h1] at hb1
    cases ws with
    | nil => simp [show numI [] = none from rfl] at hb1
    | cons x ws =>
      simp only [List.headD_cons, List.tail_cons, Bool.or_eq_false_iff] at hb1 hN ⊢
      cases hx : numI x with
      | none => rw [hx] at hb1; simp at hb1
      | some v =>
        have hv : v = m := by rw [← numI_val hx, hN, h2]
        rw [pathO_some ws hx, if_pos (by omega), hv]
        rfl
  have hP2 : N < 0 ∨ 128 < N → bad = false → pathO ws = none := by
    intro h1 h2
    cases ws with
    | nil => rfl
    | cons x ws =>
      simp only [List.headD_cons] at hN
      cases hx : numI x with
      | none => exact pathO_none ws hx
      | some v =>
        have hv : v = N := by rw [← numI_val hx, hN]
        rw [pathO_some ws hx, if_neg (by omega)]
  have hP3 : b1 = true → bad = false → pathO ws = none := by
    intro h1 h2
    rw [h1, h2] at hb1
    cases ws with
    | nil => rfl
    | cons x ws =>
      simp only [List.headD_cons, Bool.false_or] at hb1
      cases hx : numI x with
      | none => exact pathO_none ws hx
      | some v => rw [hx] at hb1; cases hb1
  have hbb : bad = true → b1 = true := fun e => by rw [← hb1, e]; rfl
  obtain ⟨P, hPP⟩ : ∃ P, pathO ws = P := ⟨_, rfl⟩
  rw [hPP] at hP hP2 hP3 ⊢
  have HP := hide hP
  have HP2 := hide hP2
  have HP3 := hide hP3
  have HBB := hide hbb
  clear h ht hl hN hb1 hP hP2 hP3 hPP hi0 hz0 hbb
  go_enter Tryd.func39, Tryd.ntmps39
  go_upto_region 3 with (go_at_call 36; (refine HN.out.mono ?_); rintro e w1 ⟨rfl, hn⟩; have HN1 := hide hn; clear hn)
  obtain ⟨A, c, k2, q2, z2⟩ := HN1.out.cells
  by_cases hgo : b1 = false ∧ 0 ≤ N ∧ N ≤ 128
  · obtain ⟨rfl, hn0, hn1⟩ := hgo
    obtain ⟨m, rfl⟩ : ∃ m : Nat, N = (m : Int) := ⟨N.toNat, by omega⟩
    have hm : m ≤ 128 := by omega
    have HP1 := hide (HP.out m rfl rfl hm)
    have HN2 := hide (HN1.out.set false)
    have d1 : decide ((m : Int) < 0) = false := by simp
    have d2 : decide ((128 : Int) < m) = false := by simp; omega
    go_upto_region 4 with fail
    clear k2 q2 z2 d1 d2
    go_wp2
    go_loopw [3, 23] (fun v i wr => ∃ (k : Nat) (ws' : List (List UInt8)) (bad' : Bool) (A' : Option Addr) (c' : Nat), k ≤ m ∧ i = .int .i64 k ∧ v = .slice A' k c' ∧ Hid (PI w b P m k v ws' bad' wr)) (fun _ i _ => m - (intOf i).toNat)
    case atStart => exact ⟨0, ws.tail, false, none, 0, by omega, rfl, rfl, hide ⟨HN2.out, HL.out.tail, ⟨[], rfl, World.ownsRow_nil _ _ _ _, fun _ => ⟨by rw [app_nil]; exact HP1.out, fun p hp => by cases hp⟩⟩, fun h => by cases h⟩⟩
    case round =>
      obtain ⟨k, ws', bad', A', c', hk, rfl, rfl, HI⟩ := hrel
      obtain ⟨A3, c3, k3, q3, z3⟩ := HI.out.n.cells
      by_cases hlt : k < m
      · cases bad'
        · obtain ⟨l, hll, hlo, hlp⟩ := HI.out.o
          have HLP := hide (hlp rfl)
          have HLO := hide hlo
          have htw := HT.out.below (gb_base HI.out.n.2 hb HT.out.bw)
          have HC1 := hide (int_any wr base b ws' false HI.out.n.1 htw hb HI.out.l.head)
          have HTW := hide htw
          obtain ⟨Va, hVa⟩ : ∃ Va, valI (ws'.headD []) = Va := ⟨_, rfl⟩
          obtain ⟨Vd, hVd⟩ : ∃ Vd, valI (ws'.tail.headD []) = Vd := ⟨_, rfl⟩
          rw [hVa] at HC1
          have HVA := hide hVa
          have HVD := hide hVd
          have HLL := hide hll
          clear hlo hlp htw hVa hVd hll
          go_wp2_with (first | (go_at_call 36; (refine HC1.out.mono ?_); rintro e w5 ⟨rfl, hn⟩; have HN5 := hide hn; have hc2 := int_any w5 base b ws'.tail _ hn.1 (HTW.out.below (gb_base hn.2 hb HTW.out.bw)) hb HI.out.l.tail.head; rw [HVD.out] at hc2; have HC2 := hide hc2; clear hn hc2 k3 q3 z3) | (go_at_call 36; (refine HC2.out.mono ?_); rintro e w6 ⟨rfl, hn⟩; have HN6 := hide hn; have HO6 := hide (row_gb (row_gb HLO.out hbw HN5.out.2) hbw hn.2); have HW6 := hide ((HI.out.n.next HN5.out.2 HN5.out.1).next hn.2 hn.1); have hb7 : Below w6.heap.size w6 (w6.alloc (Obj.cells #[.int .i64 Va, .int .i64 Vd] TPt)) := (Below.refl _ _).alloc (Nat.le_refl _) _; have HA6 := hide (reads_cs w6 TPt #[.int .i64 Va, .int .i64 Vd]); have HO7 := hide (own_later HO6.out hb7); have HW7 := hide (HW6.out.below hb7); have HS7 := hide (Nat.le_trans HW6.out.2.size hb7.size); clear hn hb7) | (at_builtin; (refine wpList_append_any _ rfl (.tmp 29) (.tmp 35) _ rfl w.heap.size TPt i0 _ 2 16 Tryd.underlying33 HI0.out HZ0.out hz1 hz2 rfl (by omega) (.slice A' k c') k (l.flatMap pEnc) rfl HO7.out (w6.heap.size + 1) (some ⟨w6.heap.size, 0, none⟩) 1 1 [.int .i64 Va, .int .i64 Vd] rfl HA6.out (by intro u hu; simp at hu; rcases hu with rfl | rfl <;> rfl) (by unfold maxLen; omega) (by omega) HS7.out ?_); intro v' w8 ho hgr _; obtain ⟨A9, c9, rfl⟩ := row_form ho; have HR9 := hide (PI.mk2 (HW7.out.grown hbw HO7.out hgr) HI.out.l HLL.out hlt HLP.out (Bool.false_or _ ▸ rfl) (by rw [HVA.out, HVD.out]; exact ho)); clear ho hgr))
          go_roundw
          case rel => exact ⟨k + 1, ws'.tail.tail, _, A9, c9, by omega, by go_num, rfl, HR9⟩
          case measure => simp [intOf]; omega
        · go_wp2_with fail
          go_ret
          refine ⟨none, 0, 0, rfl, ws', true, HI.out.n, HI.out.l, fun _ => rfl, fun _ => ⟨fun _ => HI.out.t rfl, fun h => by cases h⟩⟩
      · go_wp2_with fail
        go_ret
        refine ⟨A', k, c', rfl, ws', bad', HI.out.n, HI.out.l, (fun h => Bool.noConfusion (HBB.out h)), (fun _ => ⟨HI.out.t, fun h => ?_⟩)⟩
        obtain ⟨l, h1, h2, h3⟩ := HI.out.o
        obtain ⟨h4, h5⟩ := h3 h
        refine ⟨l, ?_, h1, h2, h5⟩
        rw [h4, show m - k = 0 by omega]
        simp [pts, app]
  · have HN3 := hide (HN1.out.set true)
    have hPn : bad = false → P = none := by
      intro hbd
      by_cases h1 : b1 = true
      · exact HP3.out h1 hbd
      · refine HP2.out ?_ hbd
        have h2 : b1 = false := by simpa using h1
        rcases Int.lt_or_le N 0 with h3 | h3
        · exact .inl h3
        · rcases Int.lt_or_le 128 N with h4 | h4
          · exact .inr h4
          · exact absurd ⟨h2, h3, h4⟩ hgo
    have HPN := hide hPn
    have hcs : b1 = true ∨ (b1 = false ∧ N < 0) ∨ (b1 = false ∧ decide (N < 0) = false ∧ 128 < N) := by
      cases b1
      · rcases Int.lt_or_le N 0 with h3 | h3
        · exact .inr (.inl ⟨rfl, h3⟩)
        · rcases Int.lt_or_le 128 N with h4 | h4
          · exact .inr (.inr ⟨rfl, by simp; omega, h4⟩)
          · exact absurd ⟨rfl, h3, h4⟩ hgo
      · exact .inl rfl
    clear hPn hgo
    have hfin : ∀ A n c w', NxP w b ws.tail true w' → PaP w b bad P A n c w' := fun A n c w' hn => ⟨ws.tail, true, hn, HL.out.tail, fun _ => rfl, fun h => ⟨fun _ => HPN.out h, fun h => by cases h⟩⟩
    have HFIN := hide hfin
    clear hfin
    rcases hcs with rfl | ⟨rfl, h1⟩ | ⟨rfl, h1, h2⟩
    all_goals
      go_upto_region 4 with fail
      clear k2 q2 z2
      go_wp2
      go_loopw [3, 23] (fun v i wr => i = .int .i64 0 ∧ v = .slice none 0 0 ∧ Hid (NxP w b ws.tail true wr)) (fun _ _ _ => 0)
      case atStart => exact ⟨rfl, rfl, HN3⟩
      case round =>
        obtain ⟨rfl, rfl, HI⟩ := hrel
        obtain ⟨A3, c3, k3, q3, z3⟩ := HI.out.cells
        by_cases hp : 0 < N
        · first | (exfalso; omega) | (go_wp2_with fail; go_ret; exact ⟨none, 0, 0, rfl, HFIN.out _ _ _ _ HI.out⟩)
        · first | (exfalso; omega) | (go_wp2_with fail; go_ret; exact ⟨none, 0, 0, rfl, HFIN.out _ _ _ _ HI.out⟩)
end Go.Proofs.YtcdhngppcpgojaaDoor
