/- The scripts' reader: numbers. -/
import Derived.Test.YtcdhngppcpgojaaDoorScrRa
import Derived.Lib.SmallJoins
import Derived.Lib.AtoiAllCases
namespace Go.Proofs.YtcdhngppcpgojaaDoor
set_option linter.unusedSimpArgs false
set_option linter.unusedVariables false
open Go.RowKit
/-- What the reader's walks need of the world. -/
structure Wt (base : Nat) (w : World) : Prop where
  t : Tab w
  k : Kn w
  e1 : ∃ tp p, w.var? Tryd.prog "strconv.ErrSyntax" = some #[.iface tp p]
  e2 : ∃ tp p, w.var? Tryd.prog "strconv.ErrRange" = some #[.iface tp p]
  m : ∃ m, w.cell? ⟨2, 0, none⟩ = some (.int .i64 m)
  b9 : 9 ≤ base
  bw : base ≤ w.heap.size
theorem var_keep {w w' : World} {base g : Nat} {n : String} (hg : Tryd.prog.globalNamed n = some g) (hb : Below base w w') (hl : g < base) : w'.var? Tryd.prog n = w.var? Tryd.prog n := by
  unfold World.var?
  rw [hg]
  simp only [Option.bind_some]
  rw [hb.block g hl]
theorem g_pow : Tryd.prog.globalNamed "internal/strconv.uint64pow10" = some 1 := by kernel_rfl
theorem g_syn : Tryd.prog.globalNamed "strconv.ErrSyntax" = some 3 := by kernel_rfl
theorem g_rng : Tryd.prog.globalNamed "strconv.ErrRange" = some 4 := by kernel_rfl
theorem Wt.below {base : Nat} {w w' : World} (h : Wt base w) (hb : Below base w w') : Wt base w' := by
  have h9 := h.b9
  refine ⟨?_, h.k.below hb (by omega), ?_, ?_, ?_, h.b9, Nat.le_trans h.bw hb.size⟩
  · have := h.t
    unfold Tab Lib.TabIs at this ⊢
    rw [var_keep g_pow hb (by omega)]; exact this
  · rw [var_keep g_syn hb (by omega)]; exact h.e1
  · rw [var_keep g_rng hb (by omega)]; exact h.e2
  · obtain ⟨m, hm⟩ := h.m
    exact ⟨m, (hb.cell (by simp only; omega)).trans hm⟩
theorem Wt.wd {base : Nat} {w : World} (h : Wt base w) : Wd w := ⟨h.t, h.k, 1, g_pow, by have := h.b9; have := h.bw; omega⟩
/-- The number that a word is, as it should be written. -/
def numI (x : List UInt8) : Option Int := match Lib.atoiAll x with
  | .ok v => if Lib.itoa v = x then some v else none
  | _ => none
def valI (x : List UInt8) : Int := match Lib.atoiAll x with
  | .ok v => v
  | .range => Lib.atoiSat x
  | _ => 0
theorem numI_val {x : List UInt8} {v : Int} (h : numI x = some v) : valI x = v := by
  unfold numI at h
  unfold valI
  rcases hu : Lib.atoiAll x with u | _ | _
  · skip
    rw [hu] at h
    simp only at h ⊢
    split at h
    · injection h
    · cases h
  · rw [hu] at h; cases h
  · rw [hu] at h; cases h
theorem numI_ok {x : List UInt8} {v : Int} (h : Lib.atoiAll x = .ok v) : valI x = v ∧ (numI x).isNone = !decide (Lib.itoa v = x) := by
  unfold valI numI
  rw [h]
  refine ⟨rfl, ?_⟩
  by_cases e : Lib.itoa v = x
  · simp [e]
  · simp [e]
theorem below_bytes {w w' : World} {s : ByteArray} (h : w' = w ∨ ∃ t, w' = Lib.bytesWorld w T8 t) : Below w.heap.size w w' := by
  rcases h with rfl | ⟨t, rfl⟩
  · exact Below.refl _ _
  · exact Joins.below_bytesWorld _ _ _ _ (Nat.le_refl _)
theorem atoi_call (w : World) (base : Nat) (ht : Wt base w) (x : List UInt8) (hl : x.length ≤ 600000000) :
    Calls Tryd.prog 53 #[str x] w fun e w' => ∃ er, e = .returned (.tuple #[.int .i64 (valI x), er]) ∧ ((∃ v, Lib.atoiAll x = .ok v ∧ er = .nilIface) ∨ (numI x = none ∧ ∃ q, er = .iface 135 q)) ∧ Below w.heap.size w w' := by
  have hx : (⟨x.toArray⟩ : ByteArray).data.toList = x := by simp
  have hs : (⟨x.toArray⟩ : ByteArray).size = x.length := str_size x
  rcases h : Lib.atoiAll x with v | _ | _
  · skip
    refine (Tryd.strconv_Atoi_ok ⟨x.toArray⟩ (by rw [hs]; omega) v (by rw [hx]; exact h) w).mono ?_
    rintro e w' ⟨rfl, hw⟩
    exact ⟨_, by rw [(numI_ok h).1], .inl ⟨v, rfl, rfl⟩, below_bytes (s := ⟨#[]⟩) hw⟩
  · skip
    obtain ⟨tp, p, hv⟩ := ht.e1
    refine (Tryd.strconv_Atoi_syntax_var ⟨x.toArray⟩ (by rw [hs]; omega) (by rw [hx]; exact h) tp p w hv).mono ?_
    rintro e w' ⟨N, rfl, _, _, hb⟩
    exact ⟨_, by unfold valI; rw [h], .inr ⟨by unfold numI; rw [h], _, rfl⟩, hb⟩
  · skip
    obtain ⟨tp, p, hv⟩ := ht.e2
    refine (Tryd.strconv_Atoi_range_var ⟨x.toArray⟩ (by rw [hs]; omega) (by rw [hx]; exact h) tp p w hv).mono ?_
    rintro e w' ⟨N, rfl, _, _, hb⟩
    exact ⟨_, by unfold valI; rw [h, hx], .inr ⟨by unfold numI; rw [h], _, rfl⟩, hb⟩
theorem NxP.next {w w1 w' : World} {b : Nat} {ws ws2 : List (List UInt8)} {bad bad2 : Bool} (h : NxP w b ws bad w1) (hb : w1.grownBy w' (some b)) (hr : Rd w' b ws2 bad2) : NxP w b ws2 bad2 w' := ⟨hr, gb_trans h.2 hb⟩
theorem NxP.below {w w1 w' : World} {b : Nat} {ws : List (List UInt8)} {bad : Bool} (h : NxP w b ws bad w1) (hb : Below w1.heap.size w1 w') : NxP w b ws bad w' := ⟨h.1.below hb, gb_trans h.2 (gb_below hb)⟩
theorem NxP.set {w w1 : World} {b : Nat} {ws : List (List UInt8)} {bad : Bool} (h : NxP w b ws bad w1) (v : Bool) : NxP w b ws v (w1.setCell ⟨b, 1, none⟩ (.bool v)) := by
  obtain ⟨A, c, hr⟩ := h.1
  refine ⟨⟨A, c, hr.k.set_ 1 _, hr.r.keep (fun p hp => World.cell?_setCell_other _ _ _ _ (fun e => by rw [← e] at hp; exact absurd hp (Nat.lt_irrefl _))), hr.c⟩, gb_trans h.2 (gb_set _ _ _ _)⟩
theorem NxP.cells {w w1 : World} {b : Nat} {ws : List (List UInt8)} {bad : Bool} (h : NxP w b ws bad w1) : ∃ A c, (∀ i, w1.cell? ⟨b, i, none⟩ = #[.slice A ws.length c, .bool bad][i]?) ∧ (∀ i, w1.frozen? ⟨b, i, none⟩ = false) ∧ b < w1.heap.size := by
  obtain ⟨A, c, hr⟩ := h.1
  exact ⟨A, c, hr.k.cell, hr.k.frozen, hr.k.lt⟩
set_option maxRecDepth 100000 in
set_option maxHeartbeats 1000000 in
theorem number_int (w : World) (base b : Nat) (ws : List (List UInt8)) (bad : Bool) (h : Rd w b ws bad) (ht : Wt base w) (hb : base ≤ b) (hl : (ws.headD []).length ≤ 600000000) :
    Calls Tryd.prog 52 #[.pointer (some ⟨b, 0, none⟩), .func (Fn.func 53) #[] #[], .func (Fn.func 45) #[] #[]] w fun e w' => e = .returned (.int .i64 (valI (ws.headD []))) ∧ NxP w b ws.tail (bad || (numI (ws.headD [])).isNone) w' := by
  have HN := hide (next_any w b ws bad h)
  obtain ⟨x, hx⟩ : ∃ x, ws.headD [] = x := ⟨_, rfl⟩
  have hem : ∀ v, Lib.atoiAll x = .ok v → ws.isEmpty = false := fun v hv => by
    cases ws with
    | nil => rw [show x = [] from hx.symm] at hv; cases hv
    | cons y ws => rfl
  rw [hx] at HN hl ⊢
  have HT := hide ht
  have HEM := hide hem
  obtain ⟨b1, hb1⟩ : ∃ b1, (bad || ws.isEmpty) = b1 := ⟨_, rfl⟩
  rw [hb1] at HN
  have HB1 := hide hb1
  clear h ht hem hb1
  go_enter Tryd.func52, Tryd.ntmps52
  go_upto_region 2 with (go_at_call 35; (refine HN.out.mono ?_); rintro e w1 ⟨rfl, hn⟩; have HN1 := hide hn; have HT1 := hide (HT.out.below (gb_base hn.2 hb HT.out.bw)); clear hn)
  go_upto_region 3 with (go_at_call 53; (refine (atoi_call w1 base HT1.out x hl).mono ?_); rintro e w2 ⟨er, rfl, hq, hb2⟩; have HQ := hide hq; have HN2 := hide (HN1.out.below hb2); have HT2 := hide (HT1.out.below (hb2.mono HT1.out.bw)); clear hb2 hq)
  obtain ⟨A, c, k2, q2, z2⟩ := HN2.out.cells
  rcases HQ.out with ⟨v, hv, rfl⟩ | ⟨hq, q, rfl⟩
  · have hbe : b1 = bad := by rw [← HB1.out, HEM.out v hv, Bool.or_false]
    subst hbe
    have HV := hide (numI_ok hv)
    have HBd := hide (Lib.atoiAll_bounds hv)
    rw [HV.out.1]
    clear hv
    cases b1
    · have HI := hide (itoa_any v w2 HBd.out HT2.out.t)
      obtain ⟨Y, hY⟩ : ∃ Y, Lib.itoa v = Y := ⟨_, rfl⟩
      rw [hY] at HI HV
      clear hY
      go_wp2_with (go_at_call 45; (refine HI.out.mono ?_); rintro e w3 ⟨rfl, hb3⟩; have HN3 := hide (HN2.out.below hb3); clear hb3 k2 q2 z2; obtain ⟨A, c, k3, q3, z3⟩ := HN3.out.cells)
      go_ret
      refine ⟨by rw [HV.out.1]; rfl, ?_⟩
      have e : (false || (numI x).isNone) = !(Y == x) := by
        rw [HV.out.2, Bool.false_or]
        by_cases hyx : Y = x
        · simp [hyx]
        · simp [hyx]
      rw [e]
      exact HN3.out.set _
    · go_wp2
      go_ret
      refine ⟨by rw [HV.out.1]; rfl, ?_⟩
      exact HN2.out.set true
  · cases b1
    · go_wp2
      go_ret
      refine ⟨rfl, ?_⟩
      have := HN2.out.set true
      rw [show (bad || (numI x).isNone) = true by rw [hq]; simp]
      exact this
    · go_wp2
      go_ret
      refine ⟨rfl, ?_⟩
      have := HN2.out.set true
      rw [show (bad || (numI x).isNone) = true by rw [hq]; simp]
      exact this
set_option maxRecDepth 100000 in
set_option maxHeartbeats 1000000 in
theorem int_any (w : World) (base b : Nat) (ws : List (List UInt8)) (bad : Bool) (h : Rd w b ws bad) (ht : Wt base w) (hb : base ≤ b) (hl : (ws.headD []).length ≤ 600000000) :
    Calls Tryd.prog 36 #[.pointer (some ⟨b, 0, none⟩)] w fun e w' => e = .returned (.int .i64 (valI (ws.headD []))) ∧ NxP w b ws.tail (bad || (numI (ws.headD [])).isNone) w' := by
  have HN := hide (number_int w base b ws bad h ht hb hl)
  obtain ⟨x, hx⟩ : ∃ x, ws.headD [] = x := ⟨_, rfl⟩
  rw [hx] at HN ⊢
  clear h ht hl hx
  go_enter Tryd.func36, Tryd.ntmps36
  go_wp2_with (go_at_call 52; (refine HN.out.mono ?_); rintro e w1 ⟨rfl, hn⟩; have HN2 := hide hn; clear hn)
  go_ret
  exact ⟨rfl, HN2.out⟩
end Go.Proofs.YtcdhngppcpgojaaDoor
