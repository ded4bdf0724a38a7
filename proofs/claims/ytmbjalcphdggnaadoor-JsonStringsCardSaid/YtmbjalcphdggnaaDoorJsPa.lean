/- The JSON writer: put. -/
import Derived.Test.YtmbjalcphdggnaaDoorJsR
import Derived.Lib.AppendStr
namespace Go.Proofs.YtmbjalcphdggnaaDoor
set_option linter.unusedSimpArgs false
set_option linter.unusedVariables false
open Go.RowKit
abbrev TWr : TypeId := 58
/-- A text more; none: it is too long. -/
def putO (x : Option L8) (s : L8) : Option L8 := x.bind fun o => if o.length + s.length ≤ 262144 then some (o ++ s) else none
theorem putO_app (x : Option L8) (a b : L8) : putO (putO x a) b = putO x (a ++ b) := by
  cases x with
  | none => rfl
  | some o =>
    unfold putO
    simp only [Option.bind_some]
    by_cases h1 : o.length + a.length ≤ 262144
    · rw [if_pos h1]
      simp only [Option.bind_some]
      by_cases h2 : o.length + a.length + b.length ≤ 262144
      · rw [if_pos (by rw [List.length_append]; omega), if_pos (by rw [List.length_append]; omega), List.append_assoc]
      · rw [if_neg (by rw [List.length_append]; omega), if_neg (by rw [List.length_append]; omega)]
    · rw [if_neg h1, if_neg (by rw [List.length_append]; omega)]
      rfl
theorem putO_nil {x : Option L8} (h : ∀ o, x = some o → o.length ≤ 262144) : putO x [] = x := by
  cases x with
  | none => rfl
  | some o =>
    unfold putO
    simp only [Option.bind_some]
    rw [if_pos (by have := h o rfl; simpa using this), List.append_nil]
/-- A writer in memory. -/
structure Wr (base wb : Nat) (x : Option L8) (W : World) (o : L8) (bv : Value) : Prop where
  blk : Blk W wb TWr #[bv, .bool x.isNone]
  row : W.ownsRow base T8 1 bv o.length (cs8 o)
  len : o.length ≤ 262144
  eq : ∀ o', x = some o' → o' = o
  le : base ≤ wb
  ne : bv.ownBlock ≠ some wb
def WrX (base wb : Nat) (x : Option L8) (W : World) : Prop := ∃ o bv, Wr base wb x W o bv
/-- Blocks that are neither a writer nor bytes stay. -/
def KT (W W' : World) : Prop := ∀ g t cs, t ≠ TWr → t ≠ T8 → Blk W g t cs → Blk W' g t cs
theorem KT.refl (W : World) : KT W W := fun _ _ _ _ _ h => h
theorem KT.trans {a b c : World} (h : KT a b) (k : KT b c) : KT a c := fun g t cs h1 h2 hb => k g t cs h1 h2 (h g t cs h1 h2 hb)
theorem KT.of_below {B : Nat} {a b : World} (h : Below B a b) (hB : a.heap.size ≤ B) : KT a b := fun g t cs _ _ hb => (h.block g (Nat.lt_of_lt_of_le hb.lt hB)).trans hb
theorem Blk.ne {W : World} {g g' : Nat} {t t' : TypeId} {cs cs' : Array Value} (h : Blk W g t cs) (h' : Blk W g' t' cs') (ht : t ≠ t') : g ≠ g' := by
  rintro rfl
  have e : some (Obj.cells cs t (0, 0)) = some (Obj.cells cs' t' (0, 0)) := h.symm.trans h'
  injection e with e
  injection e with _ e _
  exact ht e
theorem KT.set {W : World} {wb i : Nat} {v : Value} {c0 : Array Value} (h : Blk W wb TWr c0) : KT W (W.setCell ⟨wb, i, none⟩ v) := fun g t cs h1 _ hb => (Below.heap_setCell _ _ _ _ (hb.ne h h1)).trans hb
theorem KT.grown {W W' : World} {v : Value} {base n : Nat} {l : List Value} (ho : W.ownsRow base T8 1 v n l) (h : W.grownBy W' v.ownBlock) : KT W W' := fun g t cs _ h2 hb => (h.block g hb.lt (fun e => own_blk_ne ho hb (Ne.symm h2) e.symm)).trans hb
theorem u8_inf' : ∃ i, Tryd.prog.info? T8 = some i ∧ i.zero = some (.int .u8 0) ∧ i.size = 1 ∧ i.bytes = 1 := by
  have h := u8_info
  cases hi : Tryd.prog.info? T8 with
  | none => rw [hi] at h; cases h
  | some i => rw [hi] at h; simp only [Option.map_some, Option.some.injEq, Prod.mk.injEq] at h; exact ⟨i, rfl, h.1, h.2.1, h.2.2⟩
theorem str_cells (s : L8) : Lib.strCells ⟨s.toArray⟩ = cs8 s := by
  unfold Lib.strCells cs8 u8v
  simp
set_option maxRecDepth 100000 in
set_option maxHeartbeats 1000000 in
theorem put_any {base wb : Nat} {x : Option L8} {W : World} (s : L8) (hs : s.length ≤ 4000000) (h : WrX base wb x W) (hb : base ≤ W.heap.size) :
    Calls Tryd.prog 37 #[.pointer (some ⟨wb, 0, none⟩), .string ⟨s.toArray⟩] W fun e W' => e = .returned (.tuple #[]) ∧ WrX base wb (putO x s) W' ∧ Below base W W' ∧ KT W W' := by
  obtain ⟨o, bv, h⟩ := h
  obtain ⟨A, c, rfl, hc⟩ := own_slice h.row
  have kw := h.blk.cell; have fw := h.blk.frozen; have zw := h.blk.lt
  have H := hide h
  have hlo := h.len
  cases x with
  | none =>
    simp only [Option.isNone_none] at kw
    clear h
    go_enter Tryd.func37, Tryd.ntmps37
    go_wp2_with fail
    have hX : WrX base wb (putO none s) (W.setCell ⟨wb, 1, none⟩ (.bool true)) :=
      ⟨o, _, ⟨H.out.blk.set_ 1 _, row_fr H.out.row (Fr.of_grown (F := fun j => j = wb) (gby_set W wb 1 _) (fun k e => by injection e with e; exact e.symm)) (fun g hg e => H.out.ne (by rw [hg, e])), H.out.len, (fun o' e => by cases e), H.out.le, H.out.ne⟩⟩
    exact ⟨rfl, .tuple #[], results_none rfl _ _ _, rfl, hX, (Below.refl base W).setCell (p := ⟨wb, 1, none⟩) H.out.le _, KT.set H.out.blk⟩
  | some o' =>
    obtain rfl := h.eq o' rfl
    simp only [Option.isNone_some] at kw
    clear h
    by_cases hlg : 262144 < o'.length + s.length
    · have d1 : decide ((262144 : Int) < (o'.length : Int) + (s.length : Int)) = true := by simp; omega
      have hP : putO (some o') s = none := by unfold putO; simp only [Option.bind_some]; rw [if_neg (by omega)]
      go_enter Tryd.func37, Tryd.ntmps37
      go_wp2_with fail
      have hX : WrX base wb (putO (some o') s) (W.setCell ⟨wb, 1, none⟩ (.bool true)) := by
        rw [hP]
        exact ⟨o', _, ⟨H.out.blk.set_ 1 _, row_fr H.out.row (Fr.of_grown (F := fun j => j = wb) (gby_set W wb 1 _) (fun k e => by injection e with e; exact e.symm)) (fun g hg e => H.out.ne (by rw [hg, e])), H.out.len, (fun o' e => by cases e), H.out.le, H.out.ne⟩⟩
      exact ⟨rfl, .tuple #[], results_none rfl _ _ _, rfl, hX, (Below.refl base W).setCell (p := ⟨wb, 1, none⟩) H.out.le _, KT.set H.out.blk⟩
    · have d1 : decide ((262144 : Int) < (o'.length : Int) + (s.length : Int)) = false := by simp; omega
      have hP : putO (some o') s = some (o' ++ s) := by unfold putO; simp only [Option.bind_some]; rw [if_pos (by omega)]
      obtain ⟨i0, hi0, hz0, hz1, hz2⟩ := u8_inf'
      have HI0 := hide hi0
      have HZ0 := hide hz0
      have HP := hide hP
      clear hi0 hz0 hP
      obtain ⟨W1, hW1⟩ : ∃ W1, W.setCell ⟨wb, 1, none⟩ (.bool false) = W1 := ⟨_, rfl⟩
      have HB1 := hide (show Blk W1 wb TWr #[.slice A o'.length c, .bool false] from hW1 ▸ H.out.blk.set_ 1 _)
      have HO1 := hide (show W1.ownsRow base T8 1 (.slice A o'.length c) o'.length (cs8 o') from hW1 ▸ row_fr H.out.row (Fr.of_grown (F := fun j => j = wb) (gby_set W wb 1 _) (fun k e => by injection e with e; exact e.symm)) (fun g hg e => H.out.ne (by rw [hg, e])))
      have HL1 := hide (show Below base W W1 from hW1 ▸ (Below.refl base W).setCell (p := ⟨wb, 1, none⟩) H.out.le _)
      have HK1 := hide (show KT W W1 from hW1 ▸ KT.set H.out.blk)
      have HW1 := hide hW1
      clear hW1
      go_enter Tryd.func37, Tryd.ntmps37
      go_upto_region 1 with fail
      rw [HW1.out]
      clear kw fw zw
      have kw := HB1.out.cell; have fw := HB1.out.frozen; have zw := HB1.out.lt
      go_wp2_with (at_builtin; refine Lib.wpList_append_own_string _ rfl (.tmp 31) (.tmp 32) _ _ rfl base T8 i0 Tryd.underlying22 Tryd.underlying9 HI0.out HZ0.out hz1 hz2 (.slice A o'.length c) o'.length (cs8 o') rfl HO1.out ⟨s.toArray⟩ rfl (by show o'.length + s.toArray.size ≤ maxLen; unfold maxLen; simp; omega) (by show o'.length + s.toArray.size ≤ _; simp; omega) (Nat.le_trans hb HL1.out.size) ?_; intro v' W2 ho hgb _; (rw [str_cells, ← cs8_append, show o'.length + (⟨s.toArray⟩ : ByteArray).size = (o' ++ s).length by rw [List.length_append]; rfl] at ho); (obtain ⟨A2, c2, rfl, hc2⟩ := own_slice ho); have HB2 := hide (HB1.out.grown hgb (fun e => H.out.ne e.symm)); have HK2 := hide (HK1.out.trans (KT.grown HO1.out hgb)); have HL2 := hide (HL1.out.grown hgb (Nat.le_trans hb HL1.out.size) (fun k e => own_block HO1.out k e)); have HNE := hide (own_blk_ne ho HB2.out (by decide)); have HO2 := hide ho; clear ho hgb kw fw zw; have kw := HB2.out.cell; have fw := HB2.out.frozen; have zw := HB2.out.lt)
      have hX : WrX base wb (putO (some o') s) (W2.setCell ⟨wb, 0, none⟩ (.slice A2 (o'.length + s.length) c2)) := by
        rw [HP.out, ← List.length_append]
        exact ⟨o' ++ s, _, ⟨HB2.out.set_ 0 _, row_fr HO2.out (Fr.of_grown (F := fun j => j = wb) (gby_set W2 wb 0 _) (fun k e => by injection e with e; exact e.symm)) (fun g hg e => HNE.out (by rw [hg, e])), by rw [List.length_append]; omega, (fun o'' e => by injection e with e; exact e.symm), H.out.le, HNE.out⟩⟩
      exact ⟨rfl, .tuple #[], results_none rfl _ _ _, rfl, hX, HL2.out.setCell (p := ⟨wb, 0, none⟩) H.out.le _, HK2.out.trans (KT.set HB2.out)⟩
end Go.Proofs.YtmbjalcphdggnaaDoor
