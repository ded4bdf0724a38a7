/- The sectors' disk: lasts. -/
import Derived.Test.YtddcmockdomonaaPgG
namespace Go.Proofs.Ytddcmockdomonaa
set_option linter.unusedSimpArgs false
set_option linter.unusedVariables false
open Go.RowKit
def upd (S : Int → Cn) (a : Int) (c : Cn) : Int → Cn := fun x => if x = a then c else S x
/-- What is sure behind writes of which a test holds last. -/
def lastS (τ : Nat → Bool) (S : Int → Cn) (L : List (Int × Cn)) : Int → Cn := L.zipIdx.foldl (fun S p => if τ p.2 then upd S p.1.1 p.1.2 else S) S
theorem lastS_succ (τ : Nat → Bool) (S : Int → Cn) (L : List (Int × Cn)) {k : Nat} (hk : k < L.length) : lastS τ S (L.take (k + 1)) = if τ k then upd (lastS τ S (L.take k)) L[k].1 L[k].2 else lastS τ S (L.take k) := by
  unfold lastS
  rw [List.take_succ_eq_append_getElem hk, List.zipIdx_append, List.foldl_append]
  have : (L.take k).length = k := by simp; omega
  simp [this]
theorem wp_mapUpdate_own {P : Program} (w : World) {o : Oper} {a : Act} {K : Act → World → Prop} {Q : Exit → Act → World → Prop}
    (m x v : Operand) (t : TypeId) (hop : o.op = Op.mapUpdate t m x v)
    (k e : TypeId) (Kd : Maps.Keyed P k) (ht : P.underlying t = some (.map k e)) (R : Value → Option (DataW Value × List MemPlace)) (b n : Nat) (D : DataW Value)
    (hm : a.eval m = .map (some b)) (hown : w.ownsMap P k R b n D) (hn : n < maxLen) (key val : Value) (kl : Lit) (hx : a.eval x = key) (hv : a.eval v = val) (hkey : keyOf P k key = some kl)
    (d : DataW Value) (ps : List MemPlace) (hval : R val = some (d, ps))
    (hK : ∀ w', w'.ownsMap P k R b (n + 1) (D.put kl d) → w.grownBy w' (some b) → K (a.put o.dst undef) w') : o.wp P a w K Q := by
  obtain ⟨w', hrun, r1, r2⟩ := hown.update Kd ht hn hkey hval
  unfold Oper.wp
  simp [execOp, hop, hm, hx, hv, hrun, Result.andThen]
  exact hK w' r1 r2
theorem wf_key {k : Int} (h : 0 ≤ k ∧ k < 65536) : (Lit.int .i64 k).wf = true := WalkArith.wf_i64 (by omega)
theorem keyed : Maps.Keyed Try.prog 3 := Maps.int_keyed Try.underlying3
theorem kl_ne {a b : Int} (h : a ≠ b) : kl a ≠ kl b := fun e => h (by injection e)
theorem us_cells {w : World} {us : List UW} {g cap : Nat} (h : w.ownsRow 0 TW 2 (.slice (some ⟨g, 0, none⟩) us.length cap) us.length (us.flatMap UW.enc)) {k : Nat} (hk : k < us.length) :
    w.cell? ⟨g, k * 2, none⟩ = some (.int .i64 us[k].at_) ∧ w.cell? ⟨g, k * 2 + 1, none⟩ = some us[k].v := by
  have hc := h.cells (g := g) rfl
  have h0 := hc _ _ (((flat_get (enc := UW.enc) (k := 2) (fun _ => rfl) us k hk 0 (by omega))).trans rfl)
  have h1 := hc _ _ (((flat_get (enc := UW.enc) (k := 2) (fun _ => rfl) us k hk 1 (by omega))).trans rfl)
  have e : ∀ j, (⟨g, 0, none⟩ : Addr).add j = ⟨g, j, none⟩ := fun j => by unfold Addr.add; split <;> simp_all
  rw [e] at h0 h1
  exact ⟨h0, h1⟩
theorem true_any (k : Nat) (w : World) : Calls Try.prog 46 #[.int .i64 k] w fun e w' => e = .returned (.bool true) ∧ Below w.heap.size w w' := by
  go_enter Try.func46, Try.ntmps46
  go_wp2_with fail
  go_ret
  exact ⟨rfl, Below.refl _ _⟩
def maskT (mask : Int) (k : Nat) : Bool := bits BinOp.and IntKind.u64 (mask / 2 ^ (k % 64)) 1 == 1
theorem mask_any (k : Nat) (g : Nat) (mask : Int) (w : World) (hb : Blk w g 22 #[.int .u64 mask]) (hk : k ≤ 200000) (hm : 0 ≤ mask ∧ mask < 18446744073709551616) :
    Calls Try.prog 35 #[.int .i64 k, .pointer (some ⟨g, 0, none⟩)] w fun e w' => e = .returned (.bool (maskT mask k)) ∧ Below w.heap.size w w' := by
  have kb := hb.cell 0
  have qb := hb.frozen 0
  have zb := hb.lt
  clear hb
  simp at kb
  go_enter Try.func35, Try.ntmps35
  go_wp2_with fail
  go_ret
  exact ⟨rfl, Below.refl _ _⟩
def allT (_ : Nat) : Bool := true
theorem fr_boxed {F : Nat → Prop} {w wr : World} (h : Fr F w wr) (o : Obj) : Fr F w (wr.alloc o) := h.trans (Fr.of_below ((Below.refl wr.heap.size wr).alloc (Nat.le_refl _) o)) (fun _ _ h => h)
theorem sec_put {w1 w5 : World} {F : Nat → Prop} {b : Nat} {out : Bool} {left size : Int} {S : Int → Cn} {L : List (Int × Cn)} {N m : Nat} {u : Value} {n : Nat} {D : DataW Value} {us : List UW} (h : SecG w1 F b out left size S L N m u n D us)
    {v : Value} {a : Int} {c : Cn} (hf : Fil w1 F v c) (ha : 0 ≤ a ∧ a < size) (hN : N + 1 ≤ 200000) (hm : DMap w5 m (n + 1) (D.put (kl a) (.held v))) (hg : w1.grownBy w5 (some m)) : SecG w5 F b out left size (upd S a c) L (N + 1) m u (n + 1) (D.put (kl a) (.held v)) us := by
  have key : ∀ {v : Value} {c : Cn}, Fil w1 F v c → Fil w5 F v c := fun {v c} h' => by
    obtain ⟨hc, g, cap, cs, e, hf, hb, hcs⟩ := h'
    exact ⟨hc, g, cap, cs, e, hf, hb.grown hg (fun h2 => by injection h2 with h2; exact map_ne h.map hb h2.symm), hcs⟩
  refine { blk := h.blk.grown hg (fun e => by injection e with e; exact map_ne h.map h.blk e.symm), fb := h.fb, fm := h.fm, map := hm, row := ?_, fu := h.fu, fil := fun x hx => ⟨key (h.fil x hx).1, (h.fil x hx).2⟩, hL := h.hL, sure := ?_, hn := by have := h.hn; omega, hN := hN, hs := h.hs, hl := h.hl, flt := fun j hj => Nat.lt_of_lt_of_le (h.flt j hj) hg.size, dom := fun k hh => (Classical.em (k = a)).elim (fun e => e ▸ ha) (fun e => h.dom k (by rw [Maps.has_put_other (kl_ne e)] at hh; exact hh)) }
  · exact row_keep h.row fun g hgg => hg.block g (h.flt g (h.fu g hgg)) (fun e => map_ne_row h.map h.row (by rw [hgg, e]))
  · intro k h0 h1
    unfold upd
    by_cases hka : k = a
    · subst hka
      rw [if_pos rfl]
      have hkl : WideAt.IsKeyLit (kl k) := trivial
      refine ⟨fun _ => ⟨v, Maps.atKey_put_same h.map.isMap hkl _ _, key hf⟩, fun hh => ?_⟩
      rw [Maps.has_put_same h.map.isMap hkl] at hh
      cases hh
    · rw [if_neg hka, Maps.has_put_other (kl_ne hka), Maps.atKey_put_other (kl_ne hka)]
      refine ⟨fun hh => ?_, (h.sure k h0 h1).2⟩
      obtain ⟨v', hv', hf'⟩ := (h.sure k h0 h1).1 hh
      exact ⟨v', hv', key hf'⟩
theorem sec_drop {w : World} {F : Nat → Prop} {b : Nat} {out : Bool} {left size : Int} {S : Int → Cn} {L : List (Int × Cn)} {N N' m : Nat} {u : Value} {n : Nat} {D : DataW Value} {us : List UW} (h : SecG w F b out left size S L N m u n D us)
    (hN : n ≤ N' ∧ N' ≤ 200000) : Sec (w.setCell ⟨b, 4, none⟩ (.slice none 0 0)) F b out left size S [] N' := by
  have g2 : w.grownBy (w.setCell ⟨b, 4, none⟩ (.slice none 0 0)) (some b) := gby_set _ _ _ _
  refine ⟨m, .slice none 0 0, n, D, [], { blk := ?_, fb := h.fb, fm := h.fm, map := h.map.kept g2 (fun e => by injection e with e; exact map_ne h.map h.blk e), row := ⟨rfl, .inl ⟨rfl, rfl⟩⟩, fu := fun g hg => by simp [Value.ownBlock] at hg, fil := fun x hx => by simp at hx, hL := rfl, sure := ?_, hn := by simpa using hN.1, hN := hN.2, hs := h.hs, hl := h.hl, flt := fun j hj => Nat.lt_of_lt_of_le (h.flt j hj) g2.size, dom := h.dom }⟩
  · have := h.blk.set_ 4 (.slice none 0 0)
    simpa [dk] using this
  · intro k h0 h1
    refine ⟨fun hh => ?_, (h.sure k h0 h1).2⟩
    obtain ⟨v, hv, hf⟩ := (h.sure k h0 h1).1 hh
    exact ⟨v, hv, hf.turn h.blk (by decide) g2 (fun _ h => h)⟩
set_option maxRecDepth 100000 in
set_option maxHeartbeats 1000000 in
theorem sec_lasts_all {w : World} {F : Nat → Prop} {b : Nat} {out : Bool} {left size : Int} {S : Int → Cn} {L : List (Int × Cn)} {N m : Nat} {u : Value} {n : Nat} {D : DataW Value} {us : List UW} (h : SecG w F b out left size S L N m u n D us) (hN : N ≤ 100000) :
    Calls Try.prog 34 #[.pointer (some ⟨b, 0, none⟩), .func (.func 46) #[] #[]] w fun e w' => e = .returned (.tuple #[]) ∧ Sec w' F b out left size (lastS allT S L) [] N ∧ Fr F w w' := by
  obtain ⟨τ, hτ⟩ : ∃ τ, allT = τ := ⟨_, rfl⟩
  rw [hτ]
  have HT := hide (show ∀ k, τ k = true by rw [← hτ]; exact fun _ => rfl)
  clear hτ
  have H := hide h
  obtain ⟨A, cap, hu, hA⟩ : ∃ A cap, u = .slice A us.length cap ∧ (0 < us.length → ∃ g, A = some ⟨g, 0, none⟩) := by
    rcases h.row.2 with ⟨e, h0⟩ | ⟨g, cap, cur, e, _⟩
    · exact ⟨none, 0, by rw [e, h0], fun h1 => absurd h1 (by omega)⟩
    · exact ⟨_, cap, e, fun _ => ⟨g, rfl⟩⟩
  subst hu
  have HA := hide hA
  clear hA
  have hL : L.length = us.length := by rw [← h.hL]; simp
  have HL := hide hL
  have kb := h.blk.cell
  have qb := h.blk.frozen
  have zb := h.blk.lt
  unfold dk at kb
  have hul : us.length ≤ 100000 := by have := h.hn; omega
  clear h hL
  go_enter Try.func34, Try.ntmps34
  go_wp2_with fail
  go_loopw [11] (fun i wr => ∃ k : Nat, k ≤ us.length ∧ i = .int .i64 k ∧ Hid (Fr F w wr ∧ ∃ D', SecG wr F b out left size (lastS τ S (L.take k)) L (N + k) m (.slice A us.length cap) (n + k) D' us)) (fun i _ => us.length - (intOf i).toNat)
  case atStart => exact ⟨0, by omega, rfl, hide ⟨Fr.refl _ _, D, by simpa [lastS] using H.out⟩⟩
  case round =>
    clear kb qb zb
    obtain ⟨k, hk, rfl, HI⟩ := hrel
    by_cases hlt : k < us.length
    · obtain ⟨g, rfl⟩ := HA.out (by omega)
      obtain ⟨hfr, D', hk'⟩ := HI.out
      obtain ⟨c0, c1⟩ := us_cells hk'.row hlt
      have zg := (hk'.row.lt g rfl).2
      obtain ⟨gd, capd, ev, _, _⟩ := (hk'.fil us[k] (List.getElem_mem hlt)).1.reads
      obtain ⟨xa, hxa⟩ : ∃ xa, us[k].at_ = xa := ⟨_, rfl⟩
      rw [hxa] at c0
      rw [ev] at c1
      have HEV := hide ev
      have HXA := hide hxa
      have HLS := hide (lastS_succ τ S L (k := k) (by rw [HL.out]; exact hlt))
      have hLk : L[k]'(by rw [HL.out]; exact hlt) = (xa, us[k].c) := by
        have : (us.map (fun x => (x.at_, x.c)))[k]'(by simpa using hlt) = (us[k].at_, us[k].c) := by simp
        rw [hxa] at this
        rw [← this]
        congr 1
        exact hk'.hL.symm
      rw [hLk] at HLS
      clear ev hxa hLk
      have HK := hide hk'
      have HFR := hide hfr
      clear hk' hfr HI
      have HB := hide (fr_boxed HFR.out (Obj.cells #[Value.int IntKind.i64 xa, Value.slice (some ⟨gd, 0, none⟩) 512 capd] TW))
      cases ht : τ k
      · rw [ht] at HLS
        go_wp2_with ((go_at_call 46; (refine (true_any k _).mono ?_); rintro e w5 ⟨rfl, hb5⟩; have HB5 := hide hb5; clear hb5; rw [← HT.out k, ht]))
        have HFE := hide (HB.out.trans (Fr.of_below (F := F) HB5.out) (fun _ _ h => h))
        have HSE := hide ((HK.out.below ((Below.refl wr.heap.size wr).alloc (Nat.le_refl _) _)).below HB5.out)
        go_wp2
        go_roundw
        case rel => exact ⟨k + 1, by omega, by go_num, hide ⟨HFE.out, D', by have := HLS.out; simp only [Bool.false_eq_true, if_false] at this; rw [this]; exact { HSE.out with hn := by have := HSE.out.hn; omega, hN := by omega, map := HSE.out.map.mono (by omega) }⟩⟩
        case measure => simp [intOf]; omega
      · rw [ht] at HLS
        go_wp2_with ((go_at_call 46; (refine (true_any k _).mono ?_); rintro e w5 ⟨rfl, hb5⟩; have HB5 := hide hb5; clear hb5; rw [← HT.out k, ht]))
        have HFE := hide (HB.out.trans (Fr.of_below (F := F) HB5.out) (fun _ _ h => h))
        have hse := ((HK.out.below ((Below.refl wr.heap.size wr).alloc (Nat.le_refl _) _)).below HB5.out)
        have kb := hse.blk.cell
        have qb := hse.blk.frozen
        have zb := hse.blk.lt
        unfold dk at kb
        have hxb : Blk w5 wr.heap.size TW #[Value.int IntKind.i64 xa, Value.slice (some ⟨gd, 0, none⟩) 512 capd] := (Blk.new wr _ _).below HB5.out (by simp)
        have kx := hxb.cell
        have qx := hxb.frozen
        have zx := hxb.lt
        have HSE := hide hse
        clear hse hxb
        go_wp2
        refine wp_region_stage (by kernel_rfl) (by kernel_rfl) 31 1
          [⟨some 19, false, 0, 0, fun _ v _ => v = .pointer (some ⟨b, 0, none⟩)⟩,
           ⟨some 20, false, 0, 0, fun _ v _ => v = .pointer (some ⟨b, 0, none⟩)⟩,
           ⟨some 21, false, 0, 0, fun _ v _ => v = .pointer (some ⟨b, 3, none⟩)⟩,
           ⟨some 22, false, 0, 0, fun _ v _ => v = .map (some m)⟩,
           ⟨some 23, false, 0, 0, fun _ v _ => v = .pointer (some ⟨wr.heap.size, 0, none⟩)⟩,
           ⟨some 24, false, 0, 0, fun _ v _ => v = .int .i64 xa⟩,
           ⟨some 25, false, 0, 0, fun _ v _ => v = .pointer (some ⟨wr.heap.size, 1, none⟩)⟩,
           ⟨some 26, false, 0, 0, fun _ v _ => v = .slice (some ⟨gd, 0, none⟩) 512 capd⟩,
           ⟨none, true, 0, 0, fun _ _ _ => True⟩] (fun s w' => (s = 0 → w' = w5.drew) ∧ (s = 1 → Fr F w5 w' ∧ SecG w' F b out left size (upd (lastS τ S (L.take k)) xa us[k].c) L (N + k + 1) m (.slice (some ⟨g, 0, none⟩) us.length cap) (n + k + 1) (D'.put (kl xa) (.held (.slice (some ⟨gd, 0, none⟩) 512 capd))) us)) (fun _ _ _ => True) [19, 20, 21, 22, 23, 24, 25, 26] rfl (by kernel_rfl) rfl ?g0 ?keep ?steps ?fin
        case keep =>
          intro e he s v w w' hm hsM ht hv
          simp only [List.mem_cons, List.not_mem_nil, or_false] at he
          rcases he with rfl | rfl | rfl | rfl | rfl | rfl | rfl | rfl | rfl
          all_goals first | exact hv
        case steps =>
          refine ⟨?_, ?_, ?_, ?_, ?_, ?_, ?_, ?_, ?_, trivial⟩
          · intro st hlo hhi ac w3 hg hG hd K hK
            dsimp only at hlo hhi hG hK
            exact op_move _ rfl (hK _ (hg.kp 0 (by simp)))
          · intro st hlo hhi ac w3 hg hG hd K hK
            dsimp only at hlo hhi hG hK
            have f0 := hd ⟨0, .data⟩ (by simp) rfl _ rfl _ rfl
            (try simp [Act.eval] at f0)
            go_simp
            exact hK _ rfl
          · intro st hlo hhi ac w3 hg hG hd K hK
            dsimp only at hlo hhi hG hK
            have f1 := hd ⟨1, .data⟩ (by simp) rfl _ rfl _ rfl
            (try simp [Act.eval] at f1)
            go_simp
            exact hK _ rfl
          · intro st hlo hhi ac w3 hg hG hd K hK
            dsimp only at hlo hhi hG hK
            obtain rfl : st = 0 := by omega
            obtain rfl := hG.1 rfl
            have kb3 := kb 3
            simp at kb3
            have f2 := hd ⟨2, .data⟩ (by simp) rfl _ rfl _ rfl
            (try simp [Act.eval] at f2)
            go_simp
            exact hK _ rfl
          · intro st hlo hhi ac w3 hg hG hd K hK
            dsimp only at hlo hhi hG hK
            have k5 := hg.kp 5 (by simp)
            (try simp [Act.eval] at k5)
            go_simp
            exact hK _ rfl
          · intro st hlo hhi ac w3 hg hG hd K hK
            dsimp only at hlo hhi hG hK
            obtain rfl : st = 0 := by omega
            obtain rfl := hG.1 rfl
            have kx3 := kx 0
            simp at kx3
            have f4 := hd ⟨4, .data⟩ (by simp) rfl _ rfl _ rfl
            (try simp [Act.eval] at f4)
            go_simp
            exact hK _ rfl
          · intro st hlo hhi ac w3 hg hG hd K hK
            dsimp only at hlo hhi hG hK
            have k5 := hg.kp 5 (by simp)
            (try simp [Act.eval] at k5)
            go_simp
            exact hK _ rfl
          · intro st hlo hhi ac w3 hg hG hd K hK
            dsimp only at hlo hhi hG hK
            obtain rfl : st = 0 := by omega
            obtain rfl := hG.1 rfl
            have kx3 := kx 1
            simp at kx3
            have f6 := hd ⟨6, .data⟩ (by simp) rfl _ rfl _ rfl
            (try simp [Act.eval] at f6)
            go_simp
            exact hK _ rfl
          · intro ac w3 hg hG hd K hK
            dsimp only [Nat.zero_add, Nat.reduceAdd] at hG hK
            obtain rfl := hG.1 rfl
            have f3 := hd ⟨3, .data⟩ (by simp) rfl _ rfl _ rfl
            have f5 := hd ⟨5, .data⟩ (by simp) rfl _ rfl _ rfl
            have f7 := hd ⟨7, .data⟩ (by simp) rfl _ rfl _ rfl
            have hxr := HXA.out ▸ (HSE.out.fil us[k] (List.getElem_mem hlt)).2
            have hfx := HEV.out ▸ (HSE.out.fil us[k] (List.getElem_mem hlt)).1
            have hs5 := HSE.out.hs
            have hn5 := HSE.out.hn
            refine wp_mapUpdate_own _ _ _ _ 60 rfl 3 33 keyed Try.underlying60 heldR m (n + k) D' f3 HSE.out.map.drew (by unfold maxLen; omega) _ _ (kl xa) f5 f7 (Maps.keyOf_int_mk Try.underlying3 (wf_key (by omega))) _ [] rfl ?_
            intro w6 hm6 hg6'
            have hg6 := grown_of_below (Below.refl _ w5).drew hg6'
            exact hK undef w6 trivial (And.intro (fun h => absurd h (by decide)) (fun _ => ⟨Fr.of_grown hg6 (fun k hk => by injection hk with hk; subst hk; exact HSE.out.fm), sec_put HSE.out hfx hxr (by omega) hm6 hg6⟩)) trivial
        case g0 => exact And.intro (fun _ => rfl) (fun h => absurd h (by decide))
        case fin =>
          intro f w6 hG hall
          have HG := hide (hG.2 rfl)
          have HFF := hide (HFE.out.trans HG.out.1 (fun _ _ h => h))
          clear hG hall kb qb zb kx qx zx
          simp only [fillF, List.map_cons, List.map_nil, List.foldl_cons, List.foldl_nil, Act.put, List.setIfInBounds_toArray, List.set_cons_zero, List.set_cons_succ]
          go_wp2
          go_roundw
          case rel => exact ⟨k + 1, by omega, by go_num, hide ⟨HFF.out, _, by have := HLS.out; simp only [if_true] at this; rw [this]; exact HG.out.2⟩⟩
          case measure => simp [intOf]; omega
    · have e : k = us.length := by omega
      subst e
      obtain ⟨hfr, D', hk'⟩ := HI.out
      have kb := hk'.blk.cell
      have qb := hk'.blk.frozen
      have zb := hk'.blk.lt
      unfold dk at kb
      have HFR := hide hfr
      have HK := hide hk'
      clear hk' hfr HI
      go_wp2
      go_end0
      refine ⟨rfl, ?_, HFR.out.trans (Fr.of_grown (F := F) (gby_set _ b 4 _) (fun k hk => by injection hk with hk; subst hk; exact H.out.fb)) (fun _ _ h => h)⟩
      have := sec_drop (N' := N) HK.out (by have := HK.out.hn; omega)
      rw [← HL.out, List.take_length] at this
      exact this
set_option maxRecDepth 100000 in
set_option maxHeartbeats 1000000 in
theorem sec_lasts_mask {w : World} {F : Nat → Prop} {b : Nat} {out : Bool} {left size : Int} {S : Int → Cn} {L : List (Int × Cn)} {N m : Nat} {u : Value} {n : Nat} {D : DataW Value} {us : List UW} (h : SecG w F b out left size S L N m u n D us) (hN : N ≤ 100000)
    (gm : Nat) (mask : Int) (hgm : Blk w gm 22 #[.int .u64 mask]) (hnf : ¬ F gm) (hm : 0 ≤ mask ∧ mask < 18446744073709551616) :
    Calls Try.prog 34 #[.pointer (some ⟨b, 0, none⟩), .func (.func 35) #[] #[.pointer (some ⟨gm, 0, none⟩)]] w fun e w' => e = .returned (.tuple #[]) ∧ Sec w' F b out left size (lastS (maskT mask) S L) [] N ∧ Fr F w w' := by
  obtain ⟨τ, hτ⟩ : ∃ τ, maskT mask = τ := ⟨_, rfl⟩
  rw [hτ]
  have HT := hide (show ∀ k, maskT mask k = τ k by rw [hτ]; exact fun _ => rfl)
  have HM := hide hm
  have HGM := hide (show ∀ W, Fr F w W → Blk W gm 22 #[.int .u64 mask] from fun W hW => (hW.block gm hgm.lt hnf).trans hgm)
  clear hτ hm hgm
  have H := hide h
  obtain ⟨A, cap, hu, hA⟩ : ∃ A cap, u = .slice A us.length cap ∧ (0 < us.length → ∃ g, A = some ⟨g, 0, none⟩) := by
    rcases h.row.2 with ⟨e, h0⟩ | ⟨g, cap, cur, e, _⟩
    · exact ⟨none, 0, by rw [e, h0], fun h1 => absurd h1 (by omega)⟩
    · exact ⟨_, cap, e, fun _ => ⟨g, rfl⟩⟩
  subst hu
  have HA := hide hA
  clear hA
  have hL : L.length = us.length := by rw [← h.hL]; simp
  have HL := hide hL
  have kb := h.blk.cell
  have qb := h.blk.frozen
  have zb := h.blk.lt
  unfold dk at kb
  have hul : us.length ≤ 100000 := by have := h.hn; omega
  clear h hL
  go_enter Try.func34, Try.ntmps34
  go_wp2_with fail
  go_loopw [11] (fun i wr => ∃ k : Nat, k ≤ us.length ∧ i = .int .i64 k ∧ Hid (Fr F w wr ∧ ∃ D', SecG wr F b out left size (lastS τ S (L.take k)) L (N + k) m (.slice A us.length cap) (n + k) D' us)) (fun i _ => us.length - (intOf i).toNat)
  case atStart => exact ⟨0, by omega, rfl, hide ⟨Fr.refl _ _, D, by simpa [lastS] using H.out⟩⟩
  case round =>
    clear kb qb zb
    obtain ⟨k, hk, rfl, HI⟩ := hrel
    by_cases hlt : k < us.length
    · obtain ⟨g, rfl⟩ := HA.out (by omega)
      obtain ⟨hfr, D', hk'⟩ := HI.out
      obtain ⟨c0, c1⟩ := us_cells hk'.row hlt
      have zg := (hk'.row.lt g rfl).2
      obtain ⟨gd, capd, ev, _, _⟩ := (hk'.fil us[k] (List.getElem_mem hlt)).1.reads
      obtain ⟨xa, hxa⟩ : ∃ xa, us[k].at_ = xa := ⟨_, rfl⟩
      rw [hxa] at c0
      rw [ev] at c1
      have HEV := hide ev
      have HXA := hide hxa
      have HLS := hide (lastS_succ τ S L (k := k) (by rw [HL.out]; exact hlt))
      have hLk : L[k]'(by rw [HL.out]; exact hlt) = (xa, us[k].c) := by
        have : (us.map (fun x => (x.at_, x.c)))[k]'(by simpa using hlt) = (us[k].at_, us[k].c) := by simp
        rw [hxa] at this
        rw [← this]
        congr 1
        exact hk'.hL.symm
      rw [hLk] at HLS
      clear ev hxa hLk
      have HK := hide hk'
      have HFR := hide hfr
      clear hk' hfr HI
      have HB := hide (fr_boxed HFR.out (Obj.cells #[Value.int IntKind.i64 xa, Value.slice (some ⟨gd, 0, none⟩) 512 capd] TW))
      cases ht : τ k
      · rw [ht] at HLS
        go_wp2_with ((go_at_call 35; (refine (mask_any k gm mask _ (HGM.out _ HB.out) (by omega) HM.out).mono ?_); rintro e w5 ⟨rfl, hb5⟩; have HB5 := hide hb5; clear hb5; rw [HT.out k, ht]))
        have HFE := hide (HB.out.trans (Fr.of_below (F := F) HB5.out) (fun _ _ h => h))
        have HSE := hide ((HK.out.below ((Below.refl wr.heap.size wr).alloc (Nat.le_refl _) _)).below HB5.out)
        go_wp2
        go_roundw
        case rel => exact ⟨k + 1, by omega, by go_num, hide ⟨HFE.out, D', by have := HLS.out; simp only [Bool.false_eq_true, if_false] at this; rw [this]; exact { HSE.out with hn := by have := HSE.out.hn; omega, hN := by omega, map := HSE.out.map.mono (by omega) }⟩⟩
        case measure => simp [intOf]; omega
      · rw [ht] at HLS
        go_wp2_with ((go_at_call 35; (refine (mask_any k gm mask _ (HGM.out _ HB.out) (by omega) HM.out).mono ?_); rintro e w5 ⟨rfl, hb5⟩; have HB5 := hide hb5; clear hb5; rw [HT.out k, ht]))
        have HFE := hide (HB.out.trans (Fr.of_below (F := F) HB5.out) (fun _ _ h => h))
        have hse := ((HK.out.below ((Below.refl wr.heap.size wr).alloc (Nat.le_refl _) _)).below HB5.out)
        have kb := hse.blk.cell
        have qb := hse.blk.frozen
        have zb := hse.blk.lt
        unfold dk at kb
        have hxb : Blk w5 wr.heap.size TW #[Value.int IntKind.i64 xa, Value.slice (some ⟨gd, 0, none⟩) 512 capd] := (Blk.new wr _ _).below HB5.out (by simp)
        have kx := hxb.cell
        have qx := hxb.frozen
        have zx := hxb.lt
        have HSE := hide hse
        clear hse hxb
        go_wp2
        refine wp_region_stage (by kernel_rfl) (by kernel_rfl) 31 1
          [⟨some 19, false, 0, 0, fun _ v _ => v = .pointer (some ⟨b, 0, none⟩)⟩,
           ⟨some 20, false, 0, 0, fun _ v _ => v = .pointer (some ⟨b, 0, none⟩)⟩,
           ⟨some 21, false, 0, 0, fun _ v _ => v = .pointer (some ⟨b, 3, none⟩)⟩,
           ⟨some 22, false, 0, 0, fun _ v _ => v = .map (some m)⟩,
           ⟨some 23, false, 0, 0, fun _ v _ => v = .pointer (some ⟨wr.heap.size, 0, none⟩)⟩,
           ⟨some 24, false, 0, 0, fun _ v _ => v = .int .i64 xa⟩,
           ⟨some 25, false, 0, 0, fun _ v _ => v = .pointer (some ⟨wr.heap.size, 1, none⟩)⟩,
           ⟨some 26, false, 0, 0, fun _ v _ => v = .slice (some ⟨gd, 0, none⟩) 512 capd⟩,
           ⟨none, true, 0, 0, fun _ _ _ => True⟩] (fun s w' => (s = 0 → w' = w5.drew) ∧ (s = 1 → Fr F w5 w' ∧ SecG w' F b out left size (upd (lastS τ S (L.take k)) xa us[k].c) L (N + k + 1) m (.slice (some ⟨g, 0, none⟩) us.length cap) (n + k + 1) (D'.put (kl xa) (.held (.slice (some ⟨gd, 0, none⟩) 512 capd))) us)) (fun _ _ _ => True) [19, 20, 21, 22, 23, 24, 25, 26] rfl (by kernel_rfl) rfl ?g0 ?keep ?steps ?fin
        case keep =>
          intro e he s v w w' hm hsM ht hv
          simp only [List.mem_cons, List.not_mem_nil, or_false] at he
          rcases he with rfl | rfl | rfl | rfl | rfl | rfl | rfl | rfl | rfl
          all_goals first | exact hv
        case steps =>
          refine ⟨?_, ?_, ?_, ?_, ?_, ?_, ?_, ?_, ?_, trivial⟩
          · intro st hlo hhi ac w3 hg hG hd K hK
            dsimp only at hlo hhi hG hK
            exact op_move _ rfl (hK _ (hg.kp 0 (by simp)))
          · intro st hlo hhi ac w3 hg hG hd K hK
            dsimp only at hlo hhi hG hK
            have f0 := hd ⟨0, .data⟩ (by simp) rfl _ rfl _ rfl
            (try simp [Act.eval] at f0)
            go_simp
            exact hK _ rfl
          · intro st hlo hhi ac w3 hg hG hd K hK
            dsimp only at hlo hhi hG hK
            have f1 := hd ⟨1, .data⟩ (by simp) rfl _ rfl _ rfl
            (try simp [Act.eval] at f1)
            go_simp
            exact hK _ rfl
          · intro st hlo hhi ac w3 hg hG hd K hK
            dsimp only at hlo hhi hG hK
            obtain rfl : st = 0 := by omega
            obtain rfl := hG.1 rfl
            have kb3 := kb 3
            simp at kb3
            have f2 := hd ⟨2, .data⟩ (by simp) rfl _ rfl _ rfl
            (try simp [Act.eval] at f2)
            go_simp
            exact hK _ rfl
          · intro st hlo hhi ac w3 hg hG hd K hK
            dsimp only at hlo hhi hG hK
            have k5 := hg.kp 5 (by simp)
            (try simp [Act.eval] at k5)
            go_simp
            exact hK _ rfl
          · intro st hlo hhi ac w3 hg hG hd K hK
            dsimp only at hlo hhi hG hK
            obtain rfl : st = 0 := by omega
            obtain rfl := hG.1 rfl
            have kx3 := kx 0
            simp at kx3
            have f4 := hd ⟨4, .data⟩ (by simp) rfl _ rfl _ rfl
            (try simp [Act.eval] at f4)
            go_simp
            exact hK _ rfl
          · intro st hlo hhi ac w3 hg hG hd K hK
            dsimp only at hlo hhi hG hK
            have k5 := hg.kp 5 (by simp)
            (try simp [Act.eval] at k5)
            go_simp
            exact hK _ rfl
          · intro st hlo hhi ac w3 hg hG hd K hK
            dsimp only at hlo hhi hG hK
            obtain rfl : st = 0 := by omega
            obtain rfl := hG.1 rfl
            have kx3 := kx 1
            simp at kx3
            have f6 := hd ⟨6, .data⟩ (by simp) rfl _ rfl _ rfl
            (try simp [Act.eval] at f6)
            go_simp
            exact hK _ rfl
          · intro ac w3 hg hG hd K hK
            dsimp only [Nat.zero_add, Nat.reduceAdd] at hG hK
            obtain rfl := hG.1 rfl
            have f3 := hd ⟨3, .data⟩ (by simp) rfl _ rfl _ rfl
            have f5 := hd ⟨5, .data⟩ (by simp) rfl _ rfl _ rfl
            have f7 := hd ⟨7, .data⟩ (by simp) rfl _ rfl _ rfl
            have hxr := HXA.out ▸ (HSE.out.fil us[k] (List.getElem_mem hlt)).2
            have hfx := HEV.out ▸ (HSE.out.fil us[k] (List.getElem_mem hlt)).1
            have hs5 := HSE.out.hs
            have hn5 := HSE.out.hn
            refine wp_mapUpdate_own _ _ _ _ 60 rfl 3 33 keyed Try.underlying60 heldR m (n + k) D' f3 HSE.out.map.drew (by unfold maxLen; omega) _ _ (kl xa) f5 f7 (Maps.keyOf_int_mk Try.underlying3 (wf_key (by omega))) _ [] rfl ?_
            intro w6 hm6 hg6'
            have hg6 := grown_of_below (Below.refl _ w5).drew hg6'
            exact hK undef w6 trivial (And.intro (fun h => absurd h (by decide)) (fun _ => ⟨Fr.of_grown hg6 (fun k hk => by injection hk with hk; subst hk; exact HSE.out.fm), sec_put HSE.out hfx hxr (by omega) hm6 hg6⟩)) trivial
        case g0 => exact And.intro (fun _ => rfl) (fun h => absurd h (by decide))
        case fin =>
          intro f w6 hG hall
          have HG := hide (hG.2 rfl)
          have HFF := hide (HFE.out.trans HG.out.1 (fun _ _ h => h))
          clear hG hall kb qb zb kx qx zx
          simp only [fillF, List.map_cons, List.map_nil, List.foldl_cons, List.foldl_nil, Act.put, List.setIfInBounds_toArray, List.set_cons_zero, List.set_cons_succ]
          go_wp2
          go_roundw
          case rel => exact ⟨k + 1, by omega, by go_num, hide ⟨HFF.out, _, by have := HLS.out; simp only [if_true] at this; rw [this]; exact HG.out.2⟩⟩
          case measure => simp [intOf]; omega
    · have e : k = us.length := by omega
      subst e
      obtain ⟨hfr, D', hk'⟩ := HI.out
      have kb := hk'.blk.cell
      have qb := hk'.blk.frozen
      have zb := hk'.blk.lt
      unfold dk at kb
      have HFR := hide hfr
      have HK := hide hk'
      clear hk' hfr HI
      go_wp2
      go_end0
      refine ⟨rfl, ?_, HFR.out.trans (Fr.of_grown (F := F) (gby_set _ b 4 _) (fun k hk => by injection hk with hk; subst hk; exact H.out.fb)) (fun _ _ h => h)⟩
      have := sec_drop (N' := N) HK.out (by have := HK.out.hn; omega)
      rw [← HL.out, List.take_length] at this
      exact this
end Go.Proofs.Ytddcmockdomonaa
