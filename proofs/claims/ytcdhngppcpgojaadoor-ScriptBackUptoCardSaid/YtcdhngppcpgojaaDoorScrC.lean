/- The scripts' writer: text. -/
import Derived.Test.YtcdhngppcpgojaaDoorScrB
import Derived.Test.YtcdhngppcpgojaaDoorRegW
import Derived.Laws.IdiomStrings
import Derived.Laws.BytesString
namespace Go.Proofs.YtcdhngppcpgojaaDoor
set_option linter.unusedSimpArgs false
set_option linter.unusedVariables false
open Go.RowKit
/-- A digit of sixteen. -/
def hx (n : Nat) : UInt8 := UInt8.ofNat (if n < 10 then 48 + n else 87 + n)
def hexs (l : List UInt8) : List UInt8 := l.flatMap (fun c => [hx (c.toNat / 16), hx (c.toNat % 16)])
def hex (l : List UInt8) : List UInt8 := 120 :: hexs l
def bc (l : List UInt8) : List Value := l.map (fun b => .int .u8 b.toNat)
theorem u8_info : (Tryd.prog.info? T8).map (fun i => (i.zero, i.size, i.bytes)) = some (some (.int .u8 0), 1, 1) := by kernel_rfl
abbrev DG : ByteArray := ⟨#[48, 49, 50, 51, 52, 53, 54, 55, 56, 57, 97, 98, 99, 100, 101, 102]⟩
theorem hx_lt (n : Nat) : 0 ≤ ((hx n).toNat : Int) ∧ ((hx n).toNat : Int) < 256 := by
  have := (hx n).toNat_lt
  omega
theorem dg_at : ∀ n : Fin 16, (DG.data[n.val]'(by have := n.2; simp)).toNat = (hx n.val).toNat := by decide +kernel
theorem and15 : ∀ x : Fin 256, bits BinOp.and IntKind.u8 (x.val : Int) 15 = ((x.val % 16 : Nat) : Int) := by decide +kernel
theorem reads_two (w : World) (t : TypeId) (a v : Value) : Reads (w.alloc (.cells #[a, v] t)) (w.heap.size + 1) 1 (some ⟨w.heap.size, 0, none⟩) 2 [a, v] := by
  refine ⟨rfl, fun _ => ⟨_, rfl, Nat.lt_succ_self _, fun j y hy => ?_⟩⟩
  rw [show (⟨w.heap.size, 0, none⟩ : Addr).add j = ⟨w.heap.size, j, none⟩ by unfold Addr.add; split <;> simp_all, (Blk.new w t #[a, v]).cell, ← Array.getElem?_toList]
  exact hy
theorem idx_s (l : List UInt8) (k : Nat) (hk : k < l.length) (w : World) : (Instr.index TStr (.string ⟨l.toArray⟩) (.int .i64 k)).run Tryd.prog w = .ok (.int .u8 l[k].toNat) w := by
  go_simp
  rfl
theorem idx_d (n : Nat) (hn : n < 16) (w : World) : (Instr.index TStr (.string DG) (.int .u8 n)).run Tryd.prog w = .ok (.int .u8 (hx n).toNat) w := by
  go_simp
  rw [dif_pos (by omega)]
  have := dg_at ⟨n, hn⟩
  rw [← this]
  rfl
theorem op_index {P : Program} {o : Oper} {a : Act} {w : World} {K : Act → World → Prop} {Q : Exit → Act → World → Prop} (t : TypeId) (x i : Operand) (h : o.op = .index t x i) {v : Value} (hr : (Instr.index t (a.eval x) (a.eval i)).run P w = .ok v w) (hk : K (a.put o.dst v) w) : o.wp P a w K Q := by
  unfold Oper.wp
  simp [execOp, h, hr, Result.andThen]
  exact hk
theorem bc_len (l : List UInt8) : (bc l).length = l.length := by unfold bc; simp
theorem bc_one (l : List UInt8) : ∀ u ∈ bc l, u.oneCell' = true := by
  intro u hu
  obtain ⟨x, _, rfl⟩ := List.mem_map.1 hu
  rfl
theorem hexs_len (l : List UInt8) : (hexs l).length = 2 * l.length := by
  unfold hexs
  induction l with
  | nil => rfl
  | cons c l ih => rw [List.flatMap_cons, List.length_append, ih]; simp; omega
theorem bc_string {w : World} {base n : Nat} {v : Value} {l : List UInt8} (h : w.ownsRow base T8 1 v n (bc l)) (hn : n = l.length) : (convert 69 9 v).run Tryd.prog w = .ok (str l) w := by
  subst hn
  rcases h.2 with ⟨e, h0⟩ | ⟨g, cap, cur, e, _⟩
  · subst e
    have : l = [] := List.eq_nil_of_length_eq_zero h0
    subst this
    rw [run_convert_bytes_string w _ _ _ none 0 0 Tryd.underlying69 Tryd.underlying5 Tryd.underlying9]
    simp [Conv.bytesToString]
    rfl
  · subst e
    exact run_convert_bytes_back w 69 9 5 ⟨g, 0, none⟩ cap l Tryd.underlying69 Tryd.underlying5 Tryd.underlying9 (fun j hj => h.cells (g := g) rfl j _ (by unfold bc; rw [List.getElem?_map, List.getElem?_eq_getElem hj]; rfl))
def TxI (w : World) (l : List UInt8) (v : Value) (k : Nat) (wr : World) : Prop := Below w.heap.size w wr ∧ wr.ownsRow w.heap.size T8 1 v (1 + 2 * k) (bc (hex (l.take k)))
theorem hex_take (l : List UInt8) (k : Nat) (hk : k < l.length) : bc (hex (l.take (k + 1))) = bc (hex (l.take k)) ++ [.int .u8 (hx (l[k].toNat / 16)).toNat, .int .u8 (hx (l[k].toNat % 16)).toNat] := by
  unfold hex hexs bc
  rw [List.take_succ_eq_append_getElem hk, List.flatMap_append]
  simp
set_option maxRecDepth 100000 in
set_option maxHeartbeats 1000000 in
theorem text_any {w : World} {base b : Nat} {xs : List (List UInt8)} {v : Value} (h : Wr w base b xs v) (l : List UInt8) (hl : l.length ≤ 4000000) (hn : xs.length + 1 ≤ 4000000) (hbase : base ≤ w.heap.size) :
    Calls Tryd.prog 24 #[.pointer (some ⟨b, 0, none⟩), str l] w fun e w' => e = .returned (.tuple #[]) ∧ (∃ v', Wr w' base b (xs ++ [hex l]) v') ∧ Tn base w w' := by
  obtain ⟨i0, hi0, hz0, hz1, hz2⟩ := info_parts u8_info
  have H := hide h
  clear h
  have hrow0 : (w.alloc (.cells #[.int .u8 120] T8)).ownsRow w.heap.size T8 1 (.slice (some ⟨w.heap.size, 0, none⟩) 1 1) 1 [.int .u8 120] := World.ownsRow_lit w #[.int .u8 120] 1 (Nat.le_refl _) (by unfold maxLen; omega) rfl
  have HR0 := hide hrow0
  clear hrow0
  go_enter Tryd.func24, Tryd.ntmps24
  go_wp2_with fail
  go_loopw [4, 9] (fun v i wr => ∃ (k : Nat) (A' : Option Addr) (c' n' : Nat), k ≤ l.length ∧ i = .int .i64 k ∧ v = .slice A' n' c' ∧ Hid (n' = 1 + 2 * k ∧ TxI w l (.slice A' n' c') k wr)) (fun _ i _ => l.length - (intOf i).toNat)
  case atStart => exact ⟨0, _, _, _, by omega, rfl, rfl, hide ⟨rfl, (Below.refl _ _).alloc (Nat.le_refl _) _, by simpa [hex, hexs, bc] using HR0.out⟩⟩
  case round =>
    obtain ⟨k, A', c', n', hk, rfl, rfl, HI⟩ := hrel
    by_cases hlt : k < l.length
    · obtain ⟨x, hx⟩ : ∃ x, l[k].toNat = x := ⟨_, rfl⟩
      have hx2 : x < 256 := by rw [← hx]; exact l[k].toNat_lt
      have HIX := hide (fun w => idx_s l k hlt w)
      rw [hx] at HIX
      have HTK := hide (hex_take l k hlt)
      rw [hx] at HTK
      have HX2 := hide hx2
      have ha := and15 ⟨x, hx2⟩
      simp only at ha
      have HA := hide ha
      clear hx hx2 ha
      go_wp2
      refine wp_region_stageW (by kernel_rfl) (by kernel_rfl) 31 2
        [⟨some 12, false, 0, 1, fun _ v _ => v = .slice A' n' c'⟩,
         ⟨some 13, false, 0, 0, fun _ v _ => v = str l⟩,
         ⟨some 14, false, 0, 0, fun _ v _ => v = .int .i64 k⟩,
         ⟨some 15, false, 0, 0, fun _ v _ => v = .int .u8 x⟩,
         ⟨some 16, false, 0, 0, fun _ v _ => v = .int .u8 ((x / 16 : Nat) : Int)⟩,
         ⟨some 17, false, 0, 0, fun _ v _ => v = .int .u8 (hx (x / 16)).toNat⟩,
         ⟨some 18, false, 0, 0, fun _ v _ => v = str l⟩,
         ⟨some 19, false, 0, 0, fun _ v _ => v = .int .i64 k⟩,
         ⟨some 20, false, 0, 0, fun _ v _ => v = .int .u8 x⟩,
         ⟨some 21, false, 0, 0, fun _ v _ => v = .int .u8 ((x % 16 : Nat) : Int)⟩,
         ⟨some 22, false, 0, 0, fun _ v _ => v = .int .u8 (hx (x % 16)).toNat⟩,
         ⟨some 23, true, 0, 0, fun st v w' => st = 1 → ∃ g, v = .slice (some ⟨g, 0, none⟩) 2 2 ∧ Reads w' w'.heap.size 1 (some ⟨g, 0, none⟩) 2 [.int .u8 (hx (x / 16)).toNat, .int .u8 (hx (x % 16)).toNat]⟩,
         ⟨some 24, true, 1, 1, fun st v w' => st = 2 → ∃ A2 c2, v = .slice A2 (1 + 2 * (k + 1)) c2 ∧ TxI w l v (k + 1) w'⟩,
         ⟨some 4, false, 2, 2, fun st v w' => st = 2 → ∃ A2 c2, v = .slice A2 (1 + 2 * (k + 1)) c2 ∧ TxI w l v (k + 1) w'⟩] (fun st w' => (st ≤ 1 → Below wr.heap.size wr w') ∧ (st = 2 → ∃ A2 c2, TxI w l (.slice A2 (1 + 2 * (k + 1)) c2) (k + 1) w')) (fun _ w w' => True) [12, 13, 14, 15, 16, 17, 18, 19, 20, 21, 22, 23, 24, 4] rfl (by kernel_rfl) rfl ?g0 ?keep ?steps ?fin
      case keep =>
        intro e he s v w w' hm hlo hsM ht hv
        simp only [List.mem_cons, List.not_mem_nil, or_false] at he
        rcases he with rfl | rfl | rfl | rfl | rfl | rfl | rfl | rfl | rfl | rfl | rfl | rfl | rfl | rfl
        all_goals first | exact hv | (exfalso; dsimp only at hlo; omega) | (intro h3; exfalso; have := hm rfl; dsimp only at this; omega)
      case steps =>
        refine ⟨?_, ?_, ?_, ?_, ?_, ?_, ?_, ?_, ?_, ?_, ?_, ?_, ?_, ?_, trivial⟩
        · intro st hlo hhi ac w3 hg hG hd ho K hK
          dsimp only at hlo hhi hG hK
          rw [if_pos (by rfl)]
          exact op_move _ rfl (hK _ (ho 13 4 (by decide) rfl (by kernel_rfl)))
        · intro st hlo hhi ac w3 hg hG hd ho K hK
          dsimp only at hlo hhi hG hK
          rw [if_pos (by rfl)]
          exact op_move _ rfl (hK _ (hg.kp 1 (by simp)))
        · intro st hlo hhi ac w3 hg hG hd ho K hK
          dsimp only at hlo hhi hG hK
          rw [if_pos (by rfl)]
          exact op_move _ rfl (hK _ (hg.kp 5 (by simp)))
        · intro st hlo hhi ac w3 hg hG hd ho K hK
          dsimp only at hlo hhi hG hK
          rw [if_pos (by rfl)]
          have f1 := hd ⟨1, .data⟩ (by simp) rfl _ rfl _ rfl
          have f2 := hd ⟨2, .data⟩ (by simp) rfl _ rfl _ rfl
          exact op_index TStr (.tmp 13) (.tmp 14) rfl (by rw [f1, f2]; exact HIX.out _) (hK _ rfl)
        · intro st hlo hhi ac w3 hg hG hd ho K hK
          dsimp only at hlo hhi hG hK
          rw [if_pos (by rfl)]
          have f3 := hd ⟨3, .data⟩ (by simp) rfl _ rfl _ rfl
          simp [Act.eval] at f3
          have hx2 := HX2.out
          go_simp
          exact hK _ rfl
        · intro st hlo hhi ac w3 hg hG hd ho K hK
          dsimp only at hlo hhi hG hK
          rw [if_pos (by rfl)]
          have f4 := hd ⟨4, .data⟩ (by simp) rfl _ rfl _ rfl
          exact op_index TStr _ (.tmp 16) rfl (by rw [f4]; exact idx_d (x / 16) (by have := HX2.out; omega) _) (hK _ rfl)
        · intro st hlo hhi ac w3 hg hG hd ho K hK
          dsimp only at hlo hhi hG hK
          rw [if_pos (by rfl)]
          exact op_move _ rfl (hK _ (hg.kp 1 (by simp)))
        · intro st hlo hhi ac w3 hg hG hd ho K hK
          dsimp only at hlo hhi hG hK
          rw [if_pos (by rfl)]
          exact op_move _ rfl (hK _ (hg.kp 5 (by simp)))
        · intro st hlo hhi ac w3 hg hG hd ho K hK
          dsimp only at hlo hhi hG hK
          rw [if_pos (by rfl)]
          have f1 := hd ⟨6, .data⟩ (by simp) rfl _ rfl _ rfl
          have f2 := hd ⟨7, .data⟩ (by simp) rfl _ rfl _ rfl
          exact op_index TStr (.tmp 18) (.tmp 19) rfl (by rw [f1, f2]; exact HIX.out _) (hK _ rfl)
        · intro st hlo hhi ac w3 hg hG hd ho K hK
          dsimp only at hlo hhi hG hK
          rw [if_pos (by rfl)]
          have f3 := hd ⟨8, .data⟩ (by simp) rfl _ rfl _ rfl
          simp [Act.eval] at f3
          have ha := HA.out
          go_simp
          exact hK _ rfl
        · intro st hlo hhi ac w3 hg hG hd ho K hK
          dsimp only at hlo hhi hG hK
          rw [if_pos (by rfl)]
          have f4 := hd ⟨9, .data⟩ (by simp) rfl _ rfl _ rfl
          exact op_index TStr _ (.tmp 21) rfl (by rw [f4]; exact idx_d (x % 16) (by omega) _) (hK _ rfl)
        · intro ac w3 hg hG hd ho K hK
          dsimp only [Nat.zero_add, Nat.reduceAdd] at hG hK
          rw [if_pos (by rfl)]
          have f5 := hd ⟨5, .data⟩ (by simp) rfl _ rfl _ rfl
          have f10 := hd ⟨10, .data⟩ (by simp) rfl _ rfl _ rfl
          have HGG := hide (hG.1 (by decide))
          clear hG
          simp [Act.eval] at f5 f10
          go_simp
          exact hK (.slice (some ⟨w3.heap.size, 0, none⟩) 2 2) _ trivial (And.intro (fun _ => HGG.out.alloc HGG.out.size _) (fun h => absurd h (by decide))) (fun _ => ⟨_, rfl, by have := reads_two w3 T8 (.int .u8 (hx (x / 16)).toNat) (.int .u8 (hx (x % 16)).toNat); simpa using this⟩)
        · intro ac w3 hg hG hd ho K hK
          dsimp only [Nat.zero_add, Nat.reduceAdd] at hG hK
          rw [if_pos (by rfl)]
          have f0 := hd ⟨0, .data⟩ (by simp) rfl _ rfl _ rfl
          obtain ⟨g, f11, hr⟩ := hd ⟨11, .data⟩ (by simp) rfl _ rfl _ rfl rfl
          have hb := hG.1 (by decide)
          obtain ⟨e1, hT1, hT2⟩ := HI.out
          have hrow := own_later hT2 hb
          rw [e1] at f0 hrow
          refine wp_append_any w3 (.tmp 12) (.tmp 23) 69 rfl w.heap.size T8 i0 _ 1 1 Tryd.underlying69 hi0 hz0 hz1 hz2 rfl (by omega) (.slice A' (1 + 2 * k) c') (1 + 2 * k) _ f0 hrow w3.heap.size (some ⟨g, 0, none⟩) 2 2 _ f11 hr (by intro y hy; simp at hy; rcases hy with rfl | rfl <;> rfl) (by unfold maxLen; omega) (by omega) (Nat.le_trans hT1.size hb.size) ?_
          intro v' w4 ho hg4 hor
          obtain ⟨A2, c2, rfl⟩ := row_form ho
          have hfin : TxI w l (.slice A2 (1 + 2 * (k + 1)) c2) (k + 1) w4 := ⟨(hT1.trans (hb.mono hT1.size)).grown hg4 (Nat.le_trans hT1.size hb.size) (fun j e => (hrow.lt j e).1), by rw [HTK.out]; exact ho⟩
          exact hK _ w4 trivial (And.intro (fun h => absurd h (by decide)) (fun _ => ⟨A2, c2, hfin⟩)) (fun _ => ⟨A2, c2, rfl, hfin⟩)
        · intro st hlo hhi ac w3 hg hG hd ho K hK
          dsimp only at hlo hhi hG hK
          rw [if_pos (by rfl)]
          exact op_assign _ rfl (hK _ (hd ⟨12, .data⟩ (by simp) rfl _ rfl _ rfl))
      case g0 => exact And.intro (fun _ => (Below.refl _ _).drew) (fun h => absurd h (by decide))
      case fin =>
        intro f w5 hG hall
        obtain ⟨A2, c2, e4, hfin⟩ := hall _ (List.mem_of_getElem? (i := 13) rfl) 4 rfl rfl
        rw [e4] at hfin
        have HF := hide hfin
        clear hall hG hfin
        simp only [fillF, List.map_cons, List.map_nil, List.foldl_cons, List.foldl_nil, Act.put, List.setIfInBounds_toArray, List.set_cons_zero, List.set_cons_succ]
        rw [show f 4 = .slice A2 (1 + 2 * (k + 1)) c2 from e4]
        clear e4
        go_wp2
        go_roundw
        case rel => exact ⟨k + 1, A2, c2, 1 + 2 * (k + 1), by omega, by go_num, rfl, hide ⟨rfl, HF.out⟩⟩
        case measure => simp [intOf]; omega
    · have e : k = l.length := by omega
      have HS := hide (show (convert 69 9 (.slice A' n' c')).run Tryd.prog wr = .ok (str (hex l)) wr by
        have h2 := HI.out.2.2
        have e1 := HI.out.1
        rw [e, List.take_length] at h2
        rw [e] at e1
        rw [e1] at h2 ⊢
        exact bc_string h2 (by unfold hex; rw [List.length_cons, hexs_len]; omega))
      have hs := HS.out
      have HW := hide (H.out.later HI.out.2.1)
      go_wp2_with (go_at_call 29; (refine (put_any (ys := [hex l]) (HW.out.later ((Below.refl wr.heap.size wr).alloc (Nat.le_refl _) (Obj.cells #[str (hex l)] TStr))) (some ⟨wr.heap.size, 0, none⟩) 1 1 (by have := reads_one wr TStr (str (hex l)); simpa using this) (by omega) (by simp; have := HI.out.2.1.size; omega)).mono ?_); rintro e w2 ⟨rfl, ⟨v2, h2⟩, hT2⟩; have H2 := hide h2; have HT2 := hide (((Tn.of_below (base := base) HI.out.2.1).trans (Tn.of_below ((Below.refl _ _).alloc (Nat.le_refl _) _))).trans hT2); clear h2 hT2)
      go_end0
      exact ⟨rfl, ⟨v2, H2.out⟩, HT2.out⟩
end Go.Proofs.YtcdhngppcpgojaaDoor
