/- The document's disk: Crash. -/
import Derived.Test.YthlgkhnkcjihiaaSecO
namespace Go.Proofs.Ythlgkhnkcjihiaa
set_option linter.unusedSimpArgs false
set_option linter.unusedVariables false
open Go.RowKit
theorem row_form {w : World} {base : Nat} {e : TypeId} {size : Nat} {v : Value} {n : Nat} {xs : List Value} (h : w.ownsRow base e size v n xs) : ∃ A c, v = .slice A n c := by
  rcases h.2 with ⟨hv, h0⟩ | ⟨g, cap, cur, hv, _⟩
  · exact ⟨none, 0, by rw [hv, h0]⟩
  · exact ⟨_, cap, hv⟩
theorem ref_crashed {w wr : World} {F : Nat → Prop} {b : Nat} {size : Int} {LG : List (Int × Int)} {sure : Nat} {left : Int} {out : Bool} {N : Nat} {u : Value} {us : List UW} (h : RefG w F b size LG sure left out N u us)
    (τ : Nat → Bool) (V : Value) (hb : Below w.heap.size w wr) (ho : wr.ownsRow w.heap.size TW 2 V (crashG τ us).length ((crashG τ us).flatMap UW.enc)) :
    (∃ F', Ref ((((wr.setCell ⟨b, 1, none⟩ V).setCell ⟨b, 2, none⟩ (.int .i64 ((crashG τ us).length : Int))).setCell ⟨b, 4, none⟩ (.bool false)).setCell ⟨b, 3, none⟩ (.int .i64 0)) F' b size (crashG τ LG) (crashG τ LG).length 0 false N ∧ ∀ j, F' j → F j ∨ w.heap.size ≤ j) ∧
      Fr F w ((((wr.setCell ⟨b, 1, none⟩ V).setCell ⟨b, 2, none⟩ (.int .i64 ((crashG τ us).length : Int))).setCell ⟨b, 4, none⟩ (.bool false)).setCell ⟨b, 3, none⟩ (.int .i64 0)) := by
  have hc : crashG τ LG = (crashG τ us).map (fun x => (x.at_, x.c)) := by rw [← h.hL, crashG_map]
  have hcl : (crashG τ LG).length = (crashG τ us).length := by rw [hc]; simp
  have hr := h.below hb
  have g := (((gby_set wr b 1 V).trans (gby_set _ b 2 (.int .i64 ((crashG τ us).length : Int)))).trans (gby_set _ b 4 (.bool false))).trans (gby_set _ b 3 (.int .i64 0))
  have hB := (((hr.blk.set_ 1 V).set_ 2 (.int .i64 ((crashG τ us).length : Int))).set_ 4 (.bool false)).set_ 3 (.int .i64 0)
  obtain ⟨W, hW⟩ : ∃ W, (((wr.setCell ⟨b, 1, none⟩ V).setCell ⟨b, 2, none⟩ (.int .i64 ((crashG τ us).length : Int))).setCell ⟨b, 4, none⟩ (.bool false)).setCell ⟨b, 3, none⟩ (.int .i64 0) = W := ⟨_, rfl⟩
  rw [hW] at g hB ⊢
  clear hW
  refine ⟨⟨fun j => F j ∨ (w.heap.size ≤ j ∧ j < W.heap.size), ⟨V, crashG τ us, ?_⟩, fun j hj => hj.imp id And.left⟩, ?_⟩
  · refine { blk := ?_, fb := .inl h.fb, row := ?_, fu := ?_, fil := ?_, hL := hc.symm, hn := Nat.le_trans (crashG_len τ us) h.hn, hN := h.hN, hl := by omega, hsu := Nat.le_refl _, flt := ?_ }
    · rw [hcl]; simpa [rk] using hB
    · exact row_keep (own_base ho (Nat.zero_le _)) fun g' hg' => g.block g' (ho.lt g' hg').2 (fun e => by injection e with e; subst e; exact own_blk_ne ho hr.blk (by decide) hg')
    · intro g' hg'
      have := ho.lt g' hg'
      exact .inr ⟨this.1, Nat.lt_of_lt_of_le this.2 g.size⟩
    · intro x hx
      exact ((h.fil x (crashG_mem τ us x hx)).below hb (fun _ h => h)).turn hr.blk (by decide) g (fun _ h => .inl h)
    · intro j hj
      rcases hj with hj | hj
      · exact Nat.lt_of_lt_of_le (h.flt j hj) (Nat.le_trans hb.size g.size)
      · exact hj.2
  · exact (Fr.of_below (F := F) hb).trans (Fr.of_grown (F := F) g (fun k hk => by injection hk with hk; subst hk; exact h.fb)) (fun _ _ h => h)
theorem reads_new2 (w : World) (t : TypeId) (a v : Value) : Reads (w.alloc (.cells #[a, v] t)) (w.heap.size + 1) 2 (some ⟨w.heap.size, 0, none⟩) 1 [a, v] := by
  refine ⟨rfl, fun _ => ⟨_, rfl, Nat.lt_succ_self _, fun j y hy => ?_⟩⟩
  rw [show (⟨w.heap.size, 0, none⟩ : Addr).add j = ⟨w.heap.size, j, none⟩ by unfold Addr.add; split <;> simp_all, (Blk.new w t #[a, v]).cell, ← Array.getElem?_toList]
  exact hy
set_option maxRecDepth 100000 in
set_option maxHeartbeats 2000000 in
theorem ref_crash {w : World} {F : Nat → Prop} {b : Nat} {size : Int} {LG : List (Int × Int)} {sure : Nat} {left : Int} {out : Bool} {N : Nat} (h : Ref w F b size LG sure left out N) (mask : Int) (hm : 0 ≤ mask ∧ mask < 18446744073709551616) :
    Calls Try.prog 35 #[.pointer (some ⟨b, 0, none⟩), .int .u64 mask] w fun e w' => e = .returned (.tuple #[]) ∧
      (∃ F', Ref w' F' b size (crashG (keepT sure mask) LG) (crashG (keepT sure mask) LG).length 0 false N ∧ ∀ j, F' j → F j ∨ w.heap.size ≤ j) ∧ Fr F w w' := by
  obtain ⟨u, us, h⟩ := h
  obtain ⟨A, cap, rfl, hcap, hs⟩ := Ref.forms h
  obtain ⟨i0, hi0, hz0, hz1, hz2⟩ := info_parts write_info
  have H := hide h
  have hul : us.length ≤ 200000 := by have := h.hn; have := h.hN; omega
  have hsul : sure ≤ 200000 := by have := h.hsu; have : LG.length = us.length := by rw [← h.hL]; simp
                                  omega
  have kb := h.blk.cell
  have qb := h.blk.frozen
  have zb := h.blk.lt
  have HA := hide (show 0 < us.length → ∃ g, A = some ⟨g, 0, none⟩ from fun h0 => by
    obtain ⟨g, c', e, _, _⟩ := h.row.form h0
    injection e with e1 _ _
    exact ⟨g, e1⟩)
  unfold rk at kb
  clear h hs
  go_enter Try.func35, Try.ntmps35
  go_wp2_with fail
  go_loopw [4, 5] (fun v i wr => ∃ (k : Nat) (A' : Option Addr) (c' n' : Nat), k ≤ us.length ∧ i = .int .i64 k ∧ v = .slice A' n' c' ∧ Hid (n' = (crashG (keepT sure mask) (us.take k)).length ∧ wr.ownsRow w.heap.size TW 2 (.slice A' n' c') n' ((crashG (keepT sure mask) (us.take k)).flatMap UW.enc) ∧ Below w.heap.size w wr)) (fun _ i _ => us.length - (intOf i).toNat)
  case atStart => exact ⟨0, none, 0, 0, by omega, rfl, rfl, hide ⟨rfl, ⟨rfl, .inl ⟨rfl, rfl⟩⟩, Below.refl _ _⟩⟩
  case round =>
    clear kb qb zb
    obtain ⟨k, A', c', n', hk, rfl, rfl, HI⟩ := hrel
    have hx := H.out.below HI.out.2.2
    have kb := hx.blk.cell
    have qb := hx.blk.frozen
    have zb := hx.blk.lt
    unfold rk at kb
    by_cases hlt : k < us.length
    · obtain ⟨g, rfl⟩ := HA.out (by omega)
      obtain ⟨c0, c1⟩ := us_cells hx.row hlt
      have zg := (hx.row.lt g rfl).2
      obtain ⟨gd, capd, ev, _, _⟩ := (hx.fil us[k] (List.getElem_mem hlt)).reads
      obtain ⟨xa, hxa⟩ : ∃ xa, us[k].at_ = xa := ⟨_, rfl⟩
      rw [hxa] at c0
      rw [ev] at c1
      have HEV := hide ev
      have HXA := hide hxa
      have HCS := hide (crashG_succ (keepT sure mask) us hlt)
      have hnn : n' ≤ 200000 := by
        have h1 := HI.out.1
        have h2 := crashG_len (keepT sure mask) (us.take k)
        rw [List.length_take] at h2
        omega
      have HX := hide hx
      clear hx ev hxa
      by_cases hks : (k : Int) < sure
      · have hT : keepT sure mask k = true := by unfold keepT; simp; omega
        rw [hT] at HCS
        clear hT
        go_wp2_with (at_builtin; (refine wpList_append_any _ rfl (.tmp 35) (.tmp 43) _ rfl w.heap.size TW i0 _ 2 32 Try.underlying34 hi0 hz0 hz1 hz2 rfl (by omega) _ n' _ rfl (own_later HI.out.2.1 ((Below.refl wr.heap.size wr).alloc (Nat.le_refl _) _)) (wr.heap.size + 1) (some ⟨wr.heap.size, 0, none⟩) 1 1 [.int .i64 xa, .slice (some ⟨gd, 0, none⟩) 512 capd] rfl (reads_new2 _ _ _ _) (by intro y hy; simp at hy; rcases hy with rfl | rfl <;> rfl) (by unfold maxLen; omega) (by omega) (by rw [heap_al]; exact Nat.le_succ_of_le HI.out.2.2.size) ?_); intro v' w2 ho hg _; obtain ⟨A2, c2, rfl⟩ := row_form ho; have HO := hide ho; have HG := hide hg; clear ho hg)
        go_roundw
        case rel =>
          refine ⟨k + 1, A2, c2, n' + 1, by omega, by go_num, rfl, hide ⟨?_, ?_, ?_⟩⟩
          · rw [HCS.out, if_pos rfl, List.length_append, ← HI.out.1]; rfl
          · rw [HCS.out, if_pos rfl, List.flatMap_append]
            have := HO.out
            rw [show [us[k]].flatMap UW.enc = [.int .i64 xa, .slice (some ⟨gd, 0, none⟩) 512 capd] by simp [UW.enc, HXA.out, HEV.out]]
            exact this
          · have hba := HI.out.2.2.alloc HI.out.2.2.size (Obj.cells #[Value.int .i64 xa, .slice (some ⟨gd, 0, none⟩) 512 capd] TW)
            exact hba.grown HG.out hba.size (fun j e => (HI.out.2.1.lt j e).1)
        case measure => simp [intOf]; omega
      · obtain ⟨dd, hdd, hdk⟩ : ∃ dd : Nat, (k : Int) - sure = dd ∧ dd = k - sure := ⟨k - sure, by omega, rfl⟩
        have hT : keepT sure mask k = maskT mask dd := by unfold keepT; rw [hdk]; simp; omega
        have hddn : dd ≤ 200000 := by omega
        rw [hT] at HCS
        cases hM : maskT mask dd
        · rw [hM] at HCS
          unfold maskT at hM
          clear hT hdk
          go_wp2
          go_roundw
          case rel => exact ⟨k + 1, A', c', n', by omega, by go_num, rfl, hide (by rw [HCS.out, if_neg (by simp)]; exact HI.out)⟩
          case measure => simp [intOf]; omega
        · rw [hM] at HCS
          unfold maskT at hM
          clear hT hdk
          go_wp2_with (at_builtin; (refine wpList_append_any _ rfl (.tmp 35) (.tmp 43) _ rfl w.heap.size TW i0 _ 2 32 Try.underlying34 hi0 hz0 hz1 hz2 rfl (by omega) _ n' _ rfl (own_later HI.out.2.1 ((Below.refl wr.heap.size wr).alloc (Nat.le_refl _) _)) (wr.heap.size + 1) (some ⟨wr.heap.size, 0, none⟩) 1 1 [.int .i64 xa, .slice (some ⟨gd, 0, none⟩) 512 capd] rfl (reads_new2 _ _ _ _) (by intro y hy; simp at hy; rcases hy with rfl | rfl <;> rfl) (by unfold maxLen; omega) (by omega) (by rw [heap_al]; exact Nat.le_succ_of_le HI.out.2.2.size) ?_); intro v' w2 ho hg _; obtain ⟨A2, c2, rfl⟩ := row_form ho; have HO := hide ho; have HG := hide hg; clear ho hg)
          go_roundw
          case rel =>
            refine ⟨k + 1, A2, c2, n' + 1, by omega, by go_num, rfl, hide ⟨?_, ?_, ?_⟩⟩
            · rw [HCS.out, if_pos rfl, List.length_append, ← HI.out.1]; rfl
            · rw [HCS.out, if_pos rfl, List.flatMap_append]
              have := HO.out
              rw [show [us[k]].flatMap UW.enc = [.int .i64 xa, .slice (some ⟨gd, 0, none⟩) 512 capd] by simp [UW.enc, HXA.out, HEV.out]]
              exact this
            · have hba := HI.out.2.2.alloc HI.out.2.2.size (Obj.cells #[Value.int .i64 xa, .slice (some ⟨gd, 0, none⟩) 512 capd] TW)
              exact hba.grown HG.out hba.size (fun j e => (HI.out.2.1.lt j e).1)
          case measure => simp [intOf]; omega
    · have e : k = us.length := by omega
      subst e
      have HX := hide hx
      have HFIN := hide (ref_crashed H.out (keepT sure mask) (.slice A' n' c') HI.out.2.2 (by have := HI.out.2.1; have h1 := HI.out.1; rw [List.take_length] at this h1; rw [h1] at this ⊢; exact this))
      have HN := hide (show n' = (crashG (keepT sure mask) us).length by have h1 := HI.out.1; rw [List.take_length] at h1; exact h1)
      clear hx hlt
      go_wp2
      go_end0
      rw [← HN.out] at HFIN
      exact ⟨rfl, HFIN.out⟩
end Go.Proofs.Ythlgkhnkcjihiaa
