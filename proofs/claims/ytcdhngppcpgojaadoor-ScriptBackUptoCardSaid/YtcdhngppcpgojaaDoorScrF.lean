/- The document's Hex; its line of a reply. -/
import Derived.Test.YtcdhngppcpgojaaDoorScrE
namespace Go.Proofs.YtcdhngppcpgojaaDoor
set_option linter.unusedSimpArgs false
set_option linter.unusedVariables false
open Go.RowKit
set_option maxRecDepth 100000 in
set_option maxHeartbeats 1000000 in
theorem rhex_any (l : List UInt8) (hl : l.length ≤ 4000000) (w : World) :
    Calls Tryd.prog 27 #[str l] w fun e w' => e = .returned (str (hex l)) ∧ Below w.heap.size w w' := by
  obtain ⟨i0, hi0, hz0, hz1, hz2⟩ := info_parts u8_info
  have hrow0 : (w.alloc (.cells #[.int .u8 120] T8)).ownsRow w.heap.size T8 1 (.slice (some ⟨w.heap.size, 0, none⟩) 1 1) 1 [.int .u8 120] := World.ownsRow_lit w #[.int .u8 120] 1 (Nat.le_refl _) (by unfold maxLen; omega) rfl
  have HR0 := hide hrow0
  clear hrow0
  go_enter Tryd.func27, Tryd.ntmps27
  go_wp2_with fail
  go_loopw [4, 5] (fun v i wr => ∃ (k : Nat) (A' : Option Addr) (c' n' : Nat), k ≤ l.length ∧ i = .int .i64 k ∧ v = .slice A' n' c' ∧ Hid (n' = 1 + 2 * k ∧ TxI w l (.slice A' n' c') k wr)) (fun _ i _ => l.length - (intOf i).toNat)
  case atStart => exact ⟨0, _, _, _, by omega, rfl, rfl, hide ⟨rfl, (Below.refl _ _).alloc (Nat.le_refl _) _, by simpa [hex, hexs, bc] using HR0.out⟩⟩
  case round =>
    obtain ⟨k, A', c', n', hk, rfl, rfl, HI⟩ := hrel
    by_cases hlt : k < l.length
    · obtain ⟨x, hx⟩ : ∃ x, l[k].toNat = x := ⟨_, rfl⟩
      have hx2 : x < 256 := by rw [← hx]; exact l[k].toNat_lt
      have HIX := hide (fun w => idx_s l k hlt w)
      rw [hx] at HIX
      have HTK := hide (hex_take l k hlt)
      rw [hx] at HTK
      have HX2 := hide hx2
      have ha := and15 ⟨x, hx2⟩
      simp only at ha
      have HA := hide ha
      clear hx hx2 ha
      go_wp2
      refine wp_region_stageW (by kernel_rfl) (by kernel_rfl) 30 2
        [⟨some 13, false, 0, 1, fun _ v _ => v = .slice A' n' c'⟩,
         ⟨some 14, false, 0, 0, fun _ v _ => v = .string DG⟩,
         ⟨some 15, false, 0, 0, fun _ v _ => v = str l⟩,
         ⟨some 16, false, 0, 0, fun _ v _ => v = .int .i64 k⟩,
         ⟨some 17, false, 0, 0, fun _ v _ => v = .int .u8 x⟩,
         ⟨some 18, false, 0, 0, fun _ v _ => v = .int .u8 ((x / 16 : Nat) : Int)⟩,
         ⟨some 19, false, 0, 0, fun _ v _ => v = .int .u8 (hx (x / 16)).toNat⟩,
         ⟨some 20, false, 0, 0, fun _ v _ => v = .string DG⟩,
         ⟨some 21, false, 0, 0, fun _ v _ => v = str l⟩,
         ⟨some 22, false, 0, 0, fun _ v _ => v = .int .i64 k⟩,
         ⟨some 23, false, 0, 0, fun _ v _ => v = .int .u8 x⟩,
         ⟨some 24, false, 0, 0, fun _ v _ => v = .int .u8 ((x % 16 : Nat) : Int)⟩,
         ⟨some 25, false, 0, 0, fun _ v _ => v = .int .u8 (hx (x % 16)).toNat⟩,
         ⟨some 26, true, 0, 0, fun st v w' => st = 1 → ∃ g, v = .slice (some ⟨g, 0, none⟩) 2 2 ∧ Reads w' w'.heap.size 1 (some ⟨g, 0, none⟩) 2 [.int .u8 (hx (x / 16)).toNat, .int .u8 (hx (x % 16)).toNat]⟩,
         ⟨some 27, true, 1, 1, fun st v w' => st = 2 → ∃ A2 c2, v = .slice A2 (1 + 2 * (k + 1)) c2 ∧ TxI w l v (k + 1) w'⟩,
         ⟨some 4, false, 2, 2, fun st v w' => st = 2 → ∃ A2 c2, v = .slice A2 (1 + 2 * (k + 1)) c2 ∧ TxI w l v (k + 1) w'⟩] (fun st w' => (st ≤ 1 → Below wr.heap.size wr w') ∧ (st = 2 → ∃ A2 c2, TxI w l (.slice A2 (1 + 2 * (k + 1)) c2) (k + 1) w')) (fun _ w w' => True) [13, 14, 15, 16, 17, 18, 19, 20, 21, 22, 23, 24, 25, 26, 27, 4] rfl (by kernel_rfl) rfl ?g0 ?keep ?steps ?fin
      case keep =>
        intro e he s v w w' hm hlo hsM ht hv
        simp only [List.mem_cons, List.not_mem_nil, or_false] at he
        rcases he with rfl | rfl | rfl | rfl | rfl | rfl | rfl | rfl | rfl | rfl | rfl | rfl | rfl | rfl | rfl | rfl
        all_goals first | exact hv | (exfalso; dsimp only at hlo; omega) | (intro h3; exfalso; have := hm rfl; dsimp only at this; omega)
      case steps =>
        refine ⟨?_, ?_, ?_, ?_, ?_, ?_, ?_, ?_, ?_, ?_, ?_, ?_, ?_, ?_, ?_, ?_, trivial⟩
        · intro st hlo hhi ac w3 hg hG hd ho K hK
          dsimp only at hlo hhi hG hK
          rw [if_pos (by rfl)]
          exact op_move _ rfl (hK _ (ho 15 4 (by decide) rfl (by kernel_rfl)))
        · intro st hlo hhi ac w3 hg hG hd ho K hK
          dsimp only at hlo hhi hG hK
          rw [if_pos (by rfl)]
          exact op_move _ rfl (hK _ (hg.kp 3 (by simp)))
        · intro st hlo hhi ac w3 hg hG hd ho K hK
          dsimp only at hlo hhi hG hK
          rw [if_pos (by rfl)]
          exact op_move _ rfl (hK _ (hg.kp 0 (by simp)))
        · intro st hlo hhi ac w3 hg hG hd ho K hK
          dsimp only at hlo hhi hG hK
          rw [if_pos (by rfl)]
          exact op_move _ rfl (hK _ (hg.kp 5 (by simp)))
        · intro st hlo hhi ac w3 hg hG hd ho K hK
          dsimp only at hlo hhi hG hK
          rw [if_pos (by rfl)]
          have f1 := hd ⟨2, .data⟩ (by simp) rfl _ rfl _ rfl
          have f2 := hd ⟨3, .data⟩ (by simp) rfl _ rfl _ rfl
          exact op_index TStr (.tmp 15) (.tmp 16) rfl (by rw [f1, f2]; exact HIX.out _) (hK _ rfl)
        · intro st hlo hhi ac w3 hg hG hd ho K hK
          dsimp only at hlo hhi hG hK
          rw [if_pos (by rfl)]
          have f3 := hd ⟨4, .data⟩ (by simp) rfl _ rfl _ rfl
          simp [Act.eval] at f3
          have hx2 := HX2.out
          go_simp
          exact hK _ (congrArg (Value.int .u8) (by first | rfl | (rw [IntWalk.u8_in _ (by omega)]; omega) | omega))
        · intro st hlo hhi ac w3 hg hG hd ho K hK
          dsimp only at hlo hhi hG hK
          rw [if_pos (by rfl)]
          have f1 := hd ⟨1, .data⟩ (by simp) rfl _ rfl _ rfl
          have f4 := hd ⟨5, .data⟩ (by simp) rfl _ rfl _ rfl
          exact op_index TStr (.tmp 14) (.tmp 18) rfl (by rw [f1, f4]; exact idx_d (x / 16) (by have := HX2.out; omega) _) (hK _ rfl)
        · intro st hlo hhi ac w3 hg hG hd ho K hK
          dsimp only at hlo hhi hG hK
          rw [if_pos (by rfl)]
          exact op_move _ rfl (hK _ (hg.kp 3 (by simp)))
        · intro st hlo hhi ac w3 hg hG hd ho K hK
          dsimp only at hlo hhi hG hK
          rw [if_pos (by rfl)]
          exact op_move _ rfl (hK _ (hg.kp 0 (by simp)))
        · intro st hlo hhi ac w3 hg hG hd ho K hK
          dsimp only at hlo hhi hG hK
          rw [if_pos (by rfl)]
          exact op_move _ rfl (hK _ (hg.kp 5 (by simp)))
        · intro st hlo hhi ac w3 hg hG hd ho K hK
          dsimp only at hlo hhi hG hK
          rw [if_pos (by rfl)]
          have f1 := hd ⟨8, .data⟩ (by simp) rfl _ rfl _ rfl
          have f2 := hd ⟨9, .data⟩ (by simp) rfl _ rfl _ rfl
          exact op_index TStr (.tmp 21) (.tmp 22) rfl (by rw [f1, f2]; exact HIX.out _) (hK _ rfl)
        · intro st hlo hhi ac w3 hg hG hd ho K hK
          dsimp only at hlo hhi hG hK
          rw [if_pos (by rfl)]
          have f3 := hd ⟨10, .data⟩ (by simp) rfl _ rfl _ rfl
          simp [Act.eval] at f3
          have hx2 := HX2.out
          go_simp
          exact hK _ (congrArg (Value.int .u8) (by first | rfl | omega | (rw [IntWalk.u8_in _ (by omega)]; omega)))
        · intro st hlo hhi ac w3 hg hG hd ho K hK
          dsimp only at hlo hhi hG hK
          rw [if_pos (by rfl)]
          have f1 := hd ⟨7, .data⟩ (by simp) rfl _ rfl _ rfl
          have f4 := hd ⟨11, .data⟩ (by simp) rfl _ rfl _ rfl
          exact op_index TStr (.tmp 20) (.tmp 24) rfl (by rw [f1, f4]; exact idx_d (x % 16) (by omega) _) (hK _ rfl)
        · intro ac w3 hg hG hd ho K hK
          dsimp only [Nat.zero_add, Nat.reduceAdd] at hG hK
          rw [if_pos (by rfl)]
          have f5 := hd ⟨6, .data⟩ (by simp) rfl _ rfl _ rfl
          have f10 := hd ⟨12, .data⟩ (by simp) rfl _ rfl _ rfl
          have HGG := hide (hG.1 (by decide))
          clear hG
          simp [Act.eval] at f5 f10
          go_simp
          exact hK (.slice (some ⟨w3.heap.size, 0, none⟩) 2 2) _ trivial (And.intro (fun _ => HGG.out.alloc HGG.out.size _) (fun h => absurd h (by decide))) (fun _ => ⟨_, rfl, by have := reads_two w3 T8 (.int .u8 (hx (x / 16)).toNat) (.int .u8 (hx (x % 16)).toNat); simpa using this⟩)
        · intro ac w3 hg hG hd ho K hK
          dsimp only [Nat.zero_add, Nat.reduceAdd] at hG hK
          rw [if_pos (by rfl)]
          have f0 := hd ⟨0, .data⟩ (by simp) rfl _ rfl _ rfl
          obtain ⟨g, f11, hr⟩ := hd ⟨13, .data⟩ (by simp) rfl _ rfl _ rfl rfl
          have hb := hG.1 (by decide)
          obtain ⟨e1, hT1, hT2⟩ := HI.out
          have hrow := own_later hT2 hb
          rw [e1] at f0 hrow
          refine wp_append_any w3 (.tmp 13) (.tmp 26) 69 rfl w.heap.size T8 i0 _ 1 1 Tryd.underlying69 hi0 hz0 hz1 hz2 rfl (by omega) (.slice A' (1 + 2 * k) c') (1 + 2 * k) _ f0 hrow w3.heap.size (some ⟨g, 0, none⟩) 2 2 _ f11 hr (by intro y hy; simp at hy; rcases hy with rfl | rfl <;> rfl) (by unfold maxLen; omega) (by omega) (Nat.le_trans hT1.size hb.size) ?_
          intro v' w4 ho hg4 hor
          obtain ⟨A2, c2, rfl⟩ := row_form ho
          have hfin : TxI w l (.slice A2 (1 + 2 * (k + 1)) c2) (k + 1) w4 := ⟨(hT1.trans (hb.mono hT1.size)).grown hg4 (Nat.le_trans hT1.size hb.size) (fun j e => (hrow.lt j e).1), by rw [HTK.out]; exact ho⟩
          exact hK _ w4 trivial (And.intro (fun h => absurd h (by decide)) (fun _ => ⟨A2, c2, hfin⟩)) (fun _ => ⟨A2, c2, rfl, hfin⟩)
        · intro st hlo hhi ac w3 hg hG hd ho K hK
          dsimp only at hlo hhi hG hK
          rw [if_pos (by rfl)]
          exact op_assign _ rfl (hK _ (hd ⟨14, .data⟩ (by simp) rfl _ rfl _ rfl))
      case g0 => exact And.intro (fun _ => (Below.refl _ _).drew) (fun h => absurd h (by decide))
      case fin =>
        intro f w5 hG hall
        obtain ⟨A2, c2, e4, hfin⟩ := hall _ (List.mem_of_getElem? (i := 15) rfl) 4 rfl rfl
        rw [e4] at hfin
        have HF := hide hfin
        clear hall hG hfin
        simp only [fillF, List.map_cons, List.map_nil, List.foldl_cons, List.foldl_nil, Act.put, List.setIfInBounds_toArray, List.set_cons_zero, List.set_cons_succ]
        rw [show f 4 = .slice A2 (1 + 2 * (k + 1)) c2 from e4]
        clear e4
        go_wp2
        go_roundw
        case rel => exact ⟨k + 1, A2, c2, 1 + 2 * (k + 1), by omega, by go_num, rfl, hide ⟨rfl, HF.out⟩⟩
        case measure => simp [intOf]; omega
    · have e : k = l.length := by omega
      have HS := hide (show (convert 69 9 (.slice A' n' c')).run Tryd.prog wr = .ok (str (hex l)) wr by
        have h2 := HI.out.2.2
        have e1 := HI.out.1
        rw [e, List.take_length] at h2
        rw [e] at e1
        rw [e1] at h2 ⊢
        exact bc_string h2 (by unfold hex; rw [List.length_cons, hexs_len]; omega))
      have hs := HS.out
      go_wp2
      go_ret
      exact ⟨rfl, HI.out.2.1⟩
/-- The document's joining of words. -/
def jn (xs : List (List UInt8)) : List UInt8 := Lib.join xs [32]
theorem jn_one (x : List UInt8) : jn [x] = x := by unfold jn Lib.join; simp [List.intercalate]
theorem jn_snoc : ∀ (xs : List (List UInt8)) (y : List UInt8), xs ≠ [] → jn (xs ++ [y]) = jn xs ++ [32] ++ y
  | [x], y, _ => by unfold jn Lib.join; simp [List.intercalate]
  | x :: x' :: xs, y, _ => by
    have ih := jn_snoc (x' :: xs) y (by simp)
    unfold jn Lib.join at ih ⊢
    have e1 : ∀ (a b : List UInt8) (l : List (List UInt8)), [32].intercalate (a :: b :: l) = a ++ [32] ++ [32].intercalate (b :: l) := fun a b l => by simp [List.intercalate]
    rw [List.cons_append, List.cons_append, e1, e1, ← List.cons_append, ih]
    simp
theorem jn_len (m : Nat) : ∀ xs : List (List UInt8), (∀ x ∈ xs, x.length ≤ m) → (jn xs).length ≤ (m + 1) * xs.length
  | [], _ => by unfold jn Lib.join; simp [List.intercalate]
  | [x], h => by rw [jn_one]; have := h x (by simp); simp; omega
  | x :: x' :: xs, h => by
    have ih := jn_len m (x' :: xs) (fun y hy => h y (List.mem_cons_of_mem _ hy))
    have hx := h x (by simp)
    have e1 : jn (x :: x' :: xs) = x ++ [32] ++ jn (x' :: xs) := by unfold jn Lib.join; simp [List.intercalate]
    rw [e1, List.length_append, List.length_append, List.length_cons (a := x), Nat.mul_succ]
    simp only [List.length_singleton]
    omega
theorem itoa_len {n : Int} (h : -9223372036854775808 ≤ n ∧ n ≤ 9223372036854775807) : (Lib.itoa n).length ≤ 20 := by
  unfold Lib.itoa
  split
  · rw [List.length_cons]
    have := dec_len 18 n.natAbs (by omega)
    omega
  · exact dec_len64 (by omega)
end Go.Proofs.YtcdhngppcpgojaaDoor
