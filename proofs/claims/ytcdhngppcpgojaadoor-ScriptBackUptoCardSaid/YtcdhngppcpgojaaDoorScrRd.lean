/- The scripts' reader: texts. -/
import Derived.Test.YtcdhngppcpgojaaDoorScrRc
namespace Go.Proofs.YtcdhngppcpgojaaDoor
set_option linter.unusedSimpArgs false
set_option linter.unusedVariables false
open Go.RowKit
/-- A digit's place. -/
def ixd (c : UInt8) : Int := Lib.indexByte DG.data.toList c
theorem ixd_all : ∀ n : Fin 256, ixd (UInt8.ofNat n.val) = -1 ∨ (0 ≤ ixd (UInt8.ofNat n.val) ∧ ixd (UInt8.ofNat n.val) < 16) := by decide +kernel
theorem ixd_cases (c : UInt8) : ixd c = -1 ∨ (0 ≤ ixd c ∧ ixd c < 16) := by
  have := ixd_all ⟨c.toNat, c.toNat_lt⟩
  simpa using this
def bOf (a b : UInt8) : UInt8 := UInt8.ofNat (16 * (ixd a).toNat + (ixd b).toNat)
def ok2 (a b : UInt8) : Bool := decide (0 ≤ ixd a) && decide (0 ≤ ixd b)
def un2 : List UInt8 → List UInt8 × Bool
  | a :: b :: r => (bOf a b :: (un2 r).1, ok2 a b && (un2 r).2)
  | _ => ([], true)
theorem un2_snoc (a b : UInt8) : ∀ (k : Nat) (l : List UInt8), l.length = 2 * k → un2 (l ++ [a, b]) = ((un2 l).1 ++ [bOf a b], (un2 l).2 && ok2 a b)
  | 0, l, h => by
    have : l = [] := List.eq_nil_of_length_eq_zero (by omega)
    subst this
    simp [un2]
  | k + 1, x :: y :: l, h => by
    have := un2_snoc a b k l (by simp at h; omega)
    rw [List.cons_append, List.cons_append, un2, un2, this]
    simp [Bool.and_assoc]
theorem un2_take (r : List UInt8) (k : Nat) (hk : 2 * k + 1 < r.length) : un2 (r.take (2 * (k + 1))) = ((un2 (r.take (2 * k))).1 ++ [bOf (r[2 * k]'(by omega)) (r[2 * k + 1]'hk)], (un2 (r.take (2 * k))).2 && ok2 (r[2 * k]'(by omega)) (r[2 * k + 1]'hk)) := by
  have e : r.take (2 * (k + 1)) = r.take (2 * k) ++ [r[2 * k]'(by omega), r[2 * k + 1]'hk] := by
    rw [show 2 * (k + 1) = 2 * k + 1 + 1 by omega, List.take_succ_eq_append_getElem (by omega), List.take_succ_eq_append_getElem (by omega), List.append_assoc]
    rfl
  rw [e, un2_snoc _ _ k _ (by rw [List.length_take]; omega)]
/-- The text that a word is. -/
def unhexO (x : List UInt8) : Option (List UInt8) := if Lib.hasPrefix x [120] = true ∧ (Lib.trimPrefix x [120]).length % 2 = 0 ∧ (un2 (Lib.trimPrefix x [120])).2 = true then some (un2 (Lib.trimPrefix x [120])).1 else none
structure TxS (w : World) (b : Nat) (ws : List (List UInt8)) (r : List UInt8) (k : Nat) (v : Value) (wr : World) : Prop where
  n : NxP w b ws (!(un2 (r.take (2 * k))).2) wr
  o : wr.ownsRow w.heap.size T8 1 v k (bc (un2 (r.take (2 * k))).1)
theorem TxS.below {w wr w' : World} {b : Nat} {ws : List (List UInt8)} {r : List UInt8} {k : Nat} {v : Value} (h : TxS w b ws r k v wr) (hb : Below wr.heap.size wr w') : TxS w b ws r k v w' := ⟨h.n.below hb, own_later h.o hb⟩
theorem NxP.grown {w w1 w' : World} {b n : Nat} {ws : List (List UInt8)} {bad : Bool} {v : Value} {e : TypeId} {size : Nat} {xs : List Value} (h : NxP w b ws bad w1) (hb : b < w.heap.size) (ho : w1.ownsRow w.heap.size e size v n xs) (hg : w1.grownBy w' v.ownBlock) : NxP w b ws bad w' := by
  obtain ⟨A, c, hr⟩ := h.1
  have hs := h.2.size
  have hne : ∀ j, j < w.heap.size → some j ≠ v.ownBlock := fun j hj e => by have := (ho.lt j e.symm).1; omega
  refine ⟨⟨A, c, hr.k.grown hg (hne b hb), hr.r.keep (fun p hp => World.cell?_of_block (hg.block p.block (by omega) (hne _ (by omega)))), hr.c⟩, h.2.os ▸ hg.os, hg.tape.trans h.2.tape, hg.output.trans h.2.output, Nat.le_trans hs hg.size, fun j hj hj2 => (hg.block j (by omega) (hne j hj)).trans (h.2.block j hj hj2)⟩
theorem or16 : ∀ h l : Fin 16, bits BinOp.or IntKind.i64 ((h.val * 16 : Nat) : Int) (l.val : Int) = ((16 * h.val + l.val : Nat) : Int) := by decide +kernel
structure TxM (w : World) (b : Nat) (ws : List (List UInt8)) (r : List UInt8) (k : Nat) (v : Value) (F : Bool) (wr : World) : Prop where
  n : NxP w b ws F wr
  o : wr.ownsRow w.heap.size T8 1 v k (bc (un2 (r.take (2 * k))).1)
theorem TxS.mid {w wr : World} {b : Nat} {ws : List (List UInt8)} {r : List UInt8} {k : Nat} {v : Value} (h : TxS w b ws r k v wr) (hb : b < w.heap.size) (F : Bool) : TxM w b ws r k v F (wr.setCell ⟨b, 1, none⟩ (.bool F)) :=
  ⟨h.n.set F, row_keep h.o (fun g hg => Below.heap_setCell _ _ _ _ (fun e => by have := (h.o.lt g hg).1; simp at e; omega))⟩
theorem TxM.below {w wr w' : World} {b : Nat} {ws : List (List UInt8)} {r : List UInt8} {k : Nat} {v : Value} {F : Bool} (h : TxM w b ws r k v F wr) (hb : Below wr.heap.size wr w') : TxM w b ws r k v F w' := ⟨h.n.below hb, own_later h.o hb⟩
theorem TxM.add {w wr w' : World} {b : Nat} {ws : List (List UInt8)} {r : List UInt8} {k : Nat} {v v' : Value} {F : Bool} {y : UInt8} {G : Bool} (h : TxM w b ws r k v F wr) (hb : b < w.heap.size) (hu : un2 (r.take (2 * (k + 1))) = ((un2 (r.take (2 * k))).1 ++ [y], G)) (hF : F = !G) (hg : wr.grownBy w' v.ownBlock) (ho : w'.ownsRow w.heap.size T8 1 v' (k + 1) (bc (un2 (r.take (2 * k))).1 ++ [.int .u8 y.toNat])) : TxS w b ws r (k + 1) v' w' :=
  ⟨by rw [hu, ← hF]; exact h.n.grown hb h.o hg, by rw [hu, show bc ((un2 (r.take (2 * k))).1 ++ [y]) = bc (un2 (r.take (2 * k))).1 ++ [.int .u8 y.toNat] by unfold bc; simp]; exact ho⟩
set_option maxRecDepth 100000 in
set_option maxHeartbeats 1000000 in
theorem text_read (w : World) (base b : Nat) (ws : List (List UInt8)) (bad : Bool) (h : Rd w b ws bad) (ht : Wt base w) (hb : base ≤ b) (hl : (ws.headD []).length ≤ 600000000) :
    Calls Tryd.prog 38 #[.pointer (some ⟨b, 0, none⟩)] w fun e w' => ∃ S, e = .returned (str S) ∧ (∀ l, unhexO (ws.headD []) = some l → bad = false → S = l) ∧ NxP w b ws.tail (bad || (unhexO (ws.headD [])).isNone) w' := by
  have hbw : b < w.heap.size := by obtain ⟨A, c, hr⟩ := h; exact hr.k.lt
  have HN := hide (next_any w b ws bad h)
  obtain ⟨x, hx⟩ : ∃ x, ws.headD [] = x := ⟨_, rfl⟩
  have hem : ∀ l, unhexO x = some l → ws.isEmpty = false := fun l hv => by
    cases ws with
    | nil => rw [show x = [] from hx.symm] at hv; cases hv
    | cons y ws => rfl
  rw [hx] at HN hl ⊢
  have HT := hide ht
  have HEM := hide hem
  obtain ⟨b1, hb1⟩ : ∃ b1, (bad || ws.isEmpty) = b1 := ⟨_, rfl⟩
  rw [hb1] at HN
  have HB1 := hide hb1
  have HCP := hide (fun w1 => Tryd.strings_CutPrefix ⟨x.toArray⟩ ⟨#[120]⟩ w1)
  simp only [List.toList_toArray, show (⟨x.toArray⟩ : ByteArray).data.toList = x by simp, show (⟨#[120]⟩ : ByteArray).data.toList = [120] from rfl] at HCP
  obtain ⟨r, hr⟩ : ∃ r, Lib.trimPrefix x [120] = r := ⟨_, rfl⟩
  obtain ⟨pf, hpf⟩ : ∃ pf, Lib.hasPrefix x [120] = pf := ⟨_, rfl⟩
  have hrl : r.length ≤ 600000000 := by
    rw [← hr]; unfold Lib.trimPrefix; split
    · rw [List.length_drop]; omega
    · exact hl
  have hun : unhexO x = if pf = true ∧ r.length % 2 = 0 ∧ (un2 r).2 = true then some (un2 r).1 else none := by unfold unhexO; rw [hr, hpf]
  rw [hr, hpf] at HCP
  have HUN := hide hun
  clear h ht hem hb1 hr hpf hun
  go_enter Tryd.func38, Tryd.ntmps38
  go_upto_region 2 with (first | (go_at_call 35; (refine HN.out.mono ?_); rintro e w1 ⟨rfl, hn⟩; have HN1 := hide hn; clear hn) | (go_at_call 58; (refine (HCP.out w1).mono ?_); rintro e w2 ⟨rfl, rfl⟩))
  obtain ⟨A, c, k2, q2, z2⟩ := HN1.out.cells
  by_cases hgo : b1 = false ∧ pf = true ∧ r.length % 2 = 0
  · obtain ⟨rfl, rfl, hev⟩ := hgo
    have hevI : ((r.length : Int).tmod 2) = 0 := by rw [Int.tmod_eq_emod_of_nonneg (by omega)]; omega
    obtain ⟨i0, hi0, hz0, hz1, hz2⟩ := info_parts u8_info
    have HI0 := hide hi0
    have hws : ws.isEmpty = false ∧ bad = false := by
      have := HB1.out
      cases bad <;> simp at this ⊢
      exact this
    have HWS := hide hws
    clear hws
    go_upto_region 5 with fail
    have HN3 := hide (HN1.out.set false)
    clear k2 q2 z2 hi0
    go_wp2
    go_loopw [5, 6] (fun v i wr => ∃ (k : Nat) (A' : Option Addr) (c' : Nat), 2 * k ≤ r.length ∧ i = .int .i64 (2 * (k : Int)) ∧ v = .slice A' k c' ∧ Hid (TxS w b ws.tail r k v wr)) (fun _ i _ => r.length - (intOf i).toNat)
    case atStart => exact ⟨0, none, 0, by omega, rfl, rfl, hide ⟨by simpa [un2] using HN3.out, by simpa [un2, bc] using World.ownsRow_nil _ _ _ _⟩⟩
    case round =>
      obtain ⟨k, A', c', hk, rfl, rfl, HI⟩ := hrel
      obtain ⟨A2, c2, k2, q2, z2⟩ := HI.out.n.cells
      by_cases hlt : 2 * k < r.length
      · have hlt2 : 2 * k + 1 < r.length := by omega
        have hut := un2_take r k hlt2
        have hix := fun w => idx_s r (2 * k) hlt w
        have hiy := fun w => idx_s r (2 * k + 1) hlt2 w
        rw [show ((2 * k : Nat) : Int) = 2 * (k : Int) by omega] at hix
        rw [show ((2 * k + 1 : Nat) : Int) = 2 * (k : Int) + 1 by omega] at hiy
        have HIX := hide hix
        have HIY := hide hiy
        clear hix hiy
        obtain ⟨a, ha⟩ : ∃ a, r[2 * k] = a := ⟨_, rfl⟩
        obtain ⟨d, hd⟩ : ∃ d, r[2 * k + 1] = d := ⟨_, rfl⟩
        rw [ha] at hut HIX
        rw [hd] at hut HIY
        have HUT := hide hut
        have ca := ixd_cases a
        have cd := ixd_cases d
        have HCA := hide ca
        have HCD := hide cd
        have hltI : (2 * (k : Int)) < r.length := by omega
        have HDA := hide (fun w1 => Tryd.strings_IndexByte DG (a.toNat : Int) w1)
        have HDD := hide (fun w1 => Tryd.strings_IndexByte DG (d.toNat : Int) w1)
        obtain ⟨H, hH⟩ : ∃ H, ixd a = H := ⟨_, rfl⟩
        obtain ⟨L, hL⟩ : ∃ L, ixd d = L := ⟨_, rfl⟩
        have hHx : Lib.indexByte DG.data.toList ((a.toNat : Int).toNat.toUInt8) = H := by rw [← hH]; simp [ixd]
        have hLx : Lib.indexByte DG.data.toList ((d.toNat : Int).toNat.toUInt8) = L := by rw [← hL]; simp [ixd]
        rw [hHx] at HDA
        rw [hLx] at HDD
        rw [hH] at HCA ca
        rw [hL] at HCD cd
        clear hut ha hd hHx hLx
        go_upto_region 9 with fail
        refine wp_region_facts (by kernel_rfl) (by kernel_rfl) 78
          [⟨42, fun v _ => v = str r⟩,
           ⟨43, fun v _ => v = .int .i64 (2 * (k : Int))⟩,
           ⟨44, fun v _ => v = .int .u8 a.toNat⟩,
           ⟨45, fun v _ => v = .int .i64 H⟩,
           ⟨46, fun v _ => v = str r⟩,
           ⟨47, fun v _ => v = .int .i64 (2 * (k : Int))⟩,
           ⟨48, fun v _ => v = .int .i64 (2 * (k : Int) + 1)⟩,
           ⟨49, fun v _ => v = .int .u8 d.toNat⟩,
           ⟨50, fun v _ => v = .int .i64 L⟩,
           ⟨7, fun v _ => v = .int .i64 H⟩,
           ⟨8, fun v _ => v = .int .i64 L⟩] (by kernel_rfl) rfl rfl ?_ ?_ ?_
        · intro e he v w w' _ hb hv
          simp only [List.mem_cons, List.not_mem_nil, or_false] at he
          rcases he with rfl | rfl | rfl | rfl | rfl | rfl | rfl | rfl | rfl | rfl | rfl
          all_goals first | exact hv
        · refine ⟨?_, ?_, ?_, ?_, ?_, ?_, ?_, ?_, ?_, ?_, ?_, trivial⟩
          · intro ac w3 hg hd K hK
            exact op_move _ rfl (hK _ _ (Below.refl _ _) (hg.kp 3 (by simp)))
          · intro ac w3 hg hd K hK
            exact op_move _ rfl (hK _ _ (Below.refl _ _) (hg.kp 6 (by simp)))
          · intro ac w3 hg hd K hK
            have f0 := hd ⟨0, .data⟩ (by simp) rfl _ rfl
            have f1 := hd ⟨1, .data⟩ (by simp) rfl _ rfl
            exact op_index TStr (.tmp 42) (.tmp 43) rfl (by rw [f0, f1]; exact HIX.out _) (hK _ _ (Below.refl _ _) rfl)
          · intro ac w3 hg hd K hK
            have f2 : ac.eval (.tmp 44) = .int .u8 a.toNat := hd ⟨2, .data⟩ (by simp) rfl _ rfl
            simp [Act.eval] at f2
            go_simp
            (refine (HDA.out w3).mono ?_)
            rintro e w4 ⟨rfl, rfl⟩
            exact hK _ _ (Below.refl _ _) rfl
          · intro ac w3 hg hd K hK
            exact op_move _ rfl (hK _ _ (Below.refl _ _) (hg.kp 3 (by simp)))
          · intro ac w3 hg hd K hK
            exact op_move _ rfl (hK _ _ (Below.refl _ _) (hg.kp 6 (by simp)))
          · intro ac w3 hg hd K hK
            have f5 : ac.eval (.tmp 47) = .int .i64 (2 * (k : Int)) := hd ⟨5, .data⟩ (by simp) rfl _ rfl
            simp [Act.eval] at f5
            go_simp
            exact hK _ _ (Below.refl _ _) (congrArg (Value.int .i64) (by first | rfl | omega | (rw [IntWalk.i64_in _ (by omega)])))
          · intro ac w3 hg hd K hK
            have f0 := hd ⟨4, .data⟩ (by simp) rfl _ rfl
            have f1 := hd ⟨6, .data⟩ (by simp) rfl _ rfl
            exact op_index TStr (.tmp 46) (.tmp 48) rfl (by rw [f0, f1]; exact HIY.out _) (hK _ _ (Below.refl _ _) rfl)
          · intro ac w3 hg hd K hK
            have f2 : ac.eval (.tmp 49) = .int .u8 d.toNat := hd ⟨7, .data⟩ (by simp) rfl _ rfl
            simp [Act.eval] at f2
            go_simp
            (refine (HDD.out w3).mono ?_)
            rintro e w4 ⟨rfl, rfl⟩
            exact hK _ _ (Below.refl _ _) rfl
          · intro ac w3 hg hd K hK
            exact op_assign _ rfl (hK _ _ (Below.refl _ _) (hd ⟨3, .data⟩ (by simp) rfl _ rfl))
          · intro ac w3 hg hd K hK
            exact op_assign _ rfl (hK _ _ (Below.refl _ _) (hd ⟨8, .data⟩ (by simp) rfl _ rfl))
        · intro f w3 hb3 hall
          have h7 : f 7 = .int .i64 H := hall ⟨7, fun v _ => v = .int .i64 H⟩ (by simp)
          have h8 : f 8 = .int .i64 L := hall ⟨8, fun v _ => v = .int .i64 L⟩ (by simp)
          simp only [fillF, List.map_cons, List.map_nil, List.foldl_cons, List.foldl_nil, Act.put, List.setIfInBounds_toArray, List.set_cons_zero, List.set_cons_succ]
          rw [h7, h8]
          have HI3 := hide (HI.out.below hb3)
          clear h7 h8 hall hb3 k2 q2 z2
          obtain ⟨A2, c2, k2, q2, z2⟩ := HI3.out.n.cells
          obtain ⟨bk, hbk⟩ : ∃ bk, (un2 (r.take (2 * k))).2 = bk := ⟨_, rfl⟩
          have hrl2 : k ≤ 600000000 := by omega
          rw [hbk] at k2 HUT
          have HM := fun F => hide (HI3.out.mid hbw F)
          have HBK := hide hbk
          clear hbk HI3 HI
          have hY : ∀ h l : Nat, H.toNat = h → L.toNat = l → h < 16 → l < 16 → bits BinOp.or IntKind.i64 ((h : Int) * 16) (l : Int) % 256 = ((bOf a d).toNat : Int) := by
            intro h l eh el h16 l16
            have := or16 ⟨h, h16⟩ ⟨l, l16⟩
            simp only at this
            rw [show ((h : Int) * 16) = ((h * 16 : Nat) : Int) by omega, this]
            unfold bOf
            rw [hH, hL, eh, el, UInt8.toNat_ofNat']
            omega
          obtain ⟨Y, hYY⟩ : ∃ Y, bOf a d = Y := ⟨_, rfl⟩
          rw [hYY] at hY HUT
          clear hYY
          have hmx : max (-1 : Int) 0 = 0 := by decide
          rcases ca with rfl | ⟨ca1, ca2⟩
          · rcases cd with rfl | ⟨cd1, cd2⟩
            · have hv := hY 0 0 (by decide) (by decide) (by omega) (by omega)
              rw [show (((0 : Nat) : Int) * 16) = 0 by omega, show ((0 : Nat) : Int) = 0 by omega] at hv
              have HFL : Hid (true = !(bk && ok2 a d)) := hide (by unfold ok2; rw [hH, hL]; simp)
              clear hY HCA HCD
              cases bk
              · skip
                have HM3 := HM true
                clear HM
                have hb5 : Below (w3.setCell ⟨b, 1, none⟩ (.bool true)).heap.size (w3.setCell ⟨b, 1, none⟩ (.bool true)) ((w3.setCell ⟨b, 1, none⟩ (.bool true)).alloc (.cells #[.int .u8 (Y.toNat : Int)] T8)) := (Below.refl _ _).alloc (Nat.le_refl _) _
                have HM5 := hide (HM3.out.below hb5)
                have HS5 := hide (Nat.le_trans HM3.out.n.2.size hb5.size)
                have HA5 := hide (show Reads ((w3.setCell ⟨b, 1, none⟩ (.bool true)).alloc (.cells #[.int .u8 (Y.toNat : Int)] T8)) (w3.heap.size + 1) 1 (some ⟨w3.heap.size, 0, none⟩) 1 [.int .u8 (Y.toNat : Int)] by have := reads_one (w3.setCell ⟨b, 1, none⟩ (.bool true)) T8 (.int .u8 (Y.toNat : Int)); simpa using this)
                clear hb5
                go_wp2_with (at_builtin; (refine wpList_append_any _ rfl (.tmp 66) (.tmp 74) _ rfl w.heap.size T8 i0 _ 1 1 Tryd.underlying69 HI0.out hz0 hz1 hz2 rfl (by omega) (.slice A' k c') k (bc (un2 (r.take (2 * k))).1) rfl HM5.out.o (w3.heap.size + 1) (some ⟨w3.heap.size, 0, none⟩) 1 1 [.int .u8 (Y.toNat : Int)] rfl HA5.out (by intro u hu; simp at hu; subst hu; rfl) (by unfold maxLen; omega) (by omega) HS5.out ?_); intro v' w6 ho hgr _; obtain ⟨A6, c6, rfl⟩ := row_form ho; have HR6 := hide (HM5.out.add hbw HUT.out HFL.out hgr ho); clear ho hgr)
                go_roundw
                case rel => exact ⟨k + 1, A6, c6, by omega, by go_num, rfl, HR6⟩
                case measure => simp [intOf]; omega
              · skip
                have HM3 := HM true
                clear HM
                have hb5 : Below (w3.setCell ⟨b, 1, none⟩ (.bool true)).heap.size (w3.setCell ⟨b, 1, none⟩ (.bool true)) ((w3.setCell ⟨b, 1, none⟩ (.bool true)).alloc (.cells #[.int .u8 (Y.toNat : Int)] T8)) := (Below.refl _ _).alloc (Nat.le_refl _) _
                have HM5 := hide (HM3.out.below hb5)
                have HS5 := hide (Nat.le_trans HM3.out.n.2.size hb5.size)
                have HA5 := hide (show Reads ((w3.setCell ⟨b, 1, none⟩ (.bool true)).alloc (.cells #[.int .u8 (Y.toNat : Int)] T8)) (w3.heap.size + 1) 1 (some ⟨w3.heap.size, 0, none⟩) 1 [.int .u8 (Y.toNat : Int)] by have := reads_one (w3.setCell ⟨b, 1, none⟩ (.bool true)) T8 (.int .u8 (Y.toNat : Int)); simpa using this)
                clear hb5
                go_wp2_with (at_builtin; (refine wpList_append_any _ rfl (.tmp 66) (.tmp 74) _ rfl w.heap.size T8 i0 _ 1 1 Tryd.underlying69 HI0.out hz0 hz1 hz2 rfl (by omega) (.slice A' k c') k (bc (un2 (r.take (2 * k))).1) rfl HM5.out.o (w3.heap.size + 1) (some ⟨w3.heap.size, 0, none⟩) 1 1 [.int .u8 (Y.toNat : Int)] rfl HA5.out (by intro u hu; simp at hu; subst hu; rfl) (by unfold maxLen; omega) (by omega) HS5.out ?_); intro v' w6 ho hgr _; obtain ⟨A6, c6, rfl⟩ := row_form ho; have HR6 := hide (HM5.out.add hbw HUT.out HFL.out hgr ho); clear ho hgr)
                go_roundw
                case rel => exact ⟨k + 1, A6, c6, by omega, by go_num, rfl, HR6⟩
                case measure => simp [intOf]; omega
            · obtain ⟨l, rfl⟩ : ∃ l : Nat, L = (l : Int) := ⟨L.toNat, by omega⟩
              have hl0 : ¬ (l : Int) < 0 := by omega
              have hv := hY 0 l (by decide) (by omega) (by omega) (by omega)
              rw [show (((0 : Nat) : Int) * 16) = 0 by omega] at hv
              have HFL : Hid (true = !(bk && ok2 a d)) := hide (by unfold ok2; rw [hH, hL]; simp)
              clear hY HCA HCD
              cases bk
              · skip
                have HM3 := HM true
                clear HM
                have hb5 : Below (w3.setCell ⟨b, 1, none⟩ (.bool true)).heap.size (w3.setCell ⟨b, 1, none⟩ (.bool true)) ((w3.setCell ⟨b, 1, none⟩ (.bool true)).alloc (.cells #[.int .u8 (Y.toNat : Int)] T8)) := (Below.refl _ _).alloc (Nat.le_refl _) _
                have HM5 := hide (HM3.out.below hb5)
                have HS5 := hide (Nat.le_trans HM3.out.n.2.size hb5.size)
                have HA5 := hide (show Reads ((w3.setCell ⟨b, 1, none⟩ (.bool true)).alloc (.cells #[.int .u8 (Y.toNat : Int)] T8)) (w3.heap.size + 1) 1 (some ⟨w3.heap.size, 0, none⟩) 1 [.int .u8 (Y.toNat : Int)] by have := reads_one (w3.setCell ⟨b, 1, none⟩ (.bool true)) T8 (.int .u8 (Y.toNat : Int)); simpa using this)
                clear hb5
                go_wp2_with (at_builtin; (refine wpList_append_any _ rfl (.tmp 66) (.tmp 74) _ rfl w.heap.size T8 i0 _ 1 1 Tryd.underlying69 HI0.out hz0 hz1 hz2 rfl (by omega) (.slice A' k c') k (bc (un2 (r.take (2 * k))).1) rfl HM5.out.o (w3.heap.size + 1) (some ⟨w3.heap.size, 0, none⟩) 1 1 [.int .u8 (Y.toNat : Int)] rfl HA5.out (by intro u hu; simp at hu; subst hu; rfl) (by unfold maxLen; omega) (by omega) HS5.out ?_); intro v' w6 ho hgr _; obtain ⟨A6, c6, rfl⟩ := row_form ho; have HR6 := hide (HM5.out.add hbw HUT.out HFL.out hgr ho); clear ho hgr)
                go_roundw
                case rel => exact ⟨k + 1, A6, c6, by omega, by go_num, rfl, HR6⟩
                case measure => simp [intOf]; omega
              · skip
                have HM3 := HM true
                clear HM
                have hb5 : Below (w3.setCell ⟨b, 1, none⟩ (.bool true)).heap.size (w3.setCell ⟨b, 1, none⟩ (.bool true)) ((w3.setCell ⟨b, 1, none⟩ (.bool true)).alloc (.cells #[.int .u8 (Y.toNat : Int)] T8)) := (Below.refl _ _).alloc (Nat.le_refl _) _
                have HM5 := hide (HM3.out.below hb5)
                have HS5 := hide (Nat.le_trans HM3.out.n.2.size hb5.size)
                have HA5 := hide (show Reads ((w3.setCell ⟨b, 1, none⟩ (.bool true)).alloc (.cells #[.int .u8 (Y.toNat : Int)] T8)) (w3.heap.size + 1) 1 (some ⟨w3.heap.size, 0, none⟩) 1 [.int .u8 (Y.toNat : Int)] by have := reads_one (w3.setCell ⟨b, 1, none⟩ (.bool true)) T8 (.int .u8 (Y.toNat : Int)); simpa using this)
                clear hb5
                go_wp2_with (at_builtin; (refine wpList_append_any _ rfl (.tmp 66) (.tmp 74) _ rfl w.heap.size T8 i0 _ 1 1 Tryd.underlying69 HI0.out hz0 hz1 hz2 rfl (by omega) (.slice A' k c') k (bc (un2 (r.take (2 * k))).1) rfl HM5.out.o (w3.heap.size + 1) (some ⟨w3.heap.size, 0, none⟩) 1 1 [.int .u8 (Y.toNat : Int)] rfl HA5.out (by intro u hu; simp at hu; subst hu; rfl) (by unfold maxLen; omega) (by omega) HS5.out ?_); intro v' w6 ho hgr _; obtain ⟨A6, c6, rfl⟩ := row_form ho; have HR6 := hide (HM5.out.add hbw HUT.out HFL.out hgr ho); clear ho hgr)
                go_roundw
                case rel => exact ⟨k + 1, A6, c6, by omega, by go_num, rfl, HR6⟩
                case measure => simp [intOf]; omega
          · obtain ⟨h, rfl⟩ : ∃ h : Nat, H = (h : Int) := ⟨H.toNat, by omega⟩
            have hh0 : ¬ (h : Int) < 0 := by omega
            rcases cd with rfl | ⟨cd1, cd2⟩
            · have hv := hY h 0 (by omega) (by decide) (by omega) (by omega)
              rw [show ((0 : Nat) : Int) = 0 by omega] at hv
              have HFL : Hid (true = !(bk && ok2 a d)) := hide (by unfold ok2; rw [hH, hL]; simp)
              clear hY HCA HCD
              cases bk
              · skip
                have HM3 := HM true
                clear HM
                have hb5 : Below (w3.setCell ⟨b, 1, none⟩ (.bool true)).heap.size (w3.setCell ⟨b, 1, none⟩ (.bool true)) ((w3.setCell ⟨b, 1, none⟩ (.bool true)).alloc (.cells #[.int .u8 (Y.toNat : Int)] T8)) := (Below.refl _ _).alloc (Nat.le_refl _) _
                have HM5 := hide (HM3.out.below hb5)
                have HS5 := hide (Nat.le_trans HM3.out.n.2.size hb5.size)
                have HA5 := hide (show Reads ((w3.setCell ⟨b, 1, none⟩ (.bool true)).alloc (.cells #[.int .u8 (Y.toNat : Int)] T8)) (w3.heap.size + 1) 1 (some ⟨w3.heap.size, 0, none⟩) 1 [.int .u8 (Y.toNat : Int)] by have := reads_one (w3.setCell ⟨b, 1, none⟩ (.bool true)) T8 (.int .u8 (Y.toNat : Int)); simpa using this)
                clear hb5
                go_wp2_with (at_builtin; (refine wpList_append_any _ rfl (.tmp 66) (.tmp 74) _ rfl w.heap.size T8 i0 _ 1 1 Tryd.underlying69 HI0.out hz0 hz1 hz2 rfl (by omega) (.slice A' k c') k (bc (un2 (r.take (2 * k))).1) rfl HM5.out.o (w3.heap.size + 1) (some ⟨w3.heap.size, 0, none⟩) 1 1 [.int .u8 (Y.toNat : Int)] rfl HA5.out (by intro u hu; simp at hu; subst hu; rfl) (by unfold maxLen; omega) (by omega) HS5.out ?_); intro v' w6 ho hgr _; obtain ⟨A6, c6, rfl⟩ := row_form ho; have HR6 := hide (HM5.out.add hbw HUT.out HFL.out hgr ho); clear ho hgr)
                go_roundw
                case rel => exact ⟨k + 1, A6, c6, by omega, by go_num, rfl, HR6⟩
                case measure => simp [intOf]; omega
              · skip
                have HM3 := HM true
                clear HM
                have hb5 : Below (w3.setCell ⟨b, 1, none⟩ (.bool true)).heap.size (w3.setCell ⟨b, 1, none⟩ (.bool true)) ((w3.setCell ⟨b, 1, none⟩ (.bool true)).alloc (.cells #[.int .u8 (Y.toNat : Int)] T8)) := (Below.refl _ _).alloc (Nat.le_refl _) _
                have HM5 := hide (HM3.out.below hb5)
                have HS5 := hide (Nat.le_trans HM3.out.n.2.size hb5.size)
                have HA5 := hide (show Reads ((w3.setCell ⟨b, 1, none⟩ (.bool true)).alloc (.cells #[.int .u8 (Y.toNat : Int)] T8)) (w3.heap.size + 1) 1 (some ⟨w3.heap.size, 0, none⟩) 1 [.int .u8 (Y.toNat : Int)] by have := reads_one (w3.setCell ⟨b, 1, none⟩ (.bool true)) T8 (.int .u8 (Y.toNat : Int)); simpa using this)
                clear hb5
                go_wp2_with (at_builtin; (refine wpList_append_any _ rfl (.tmp 66) (.tmp 74) _ rfl w.heap.size T8 i0 _ 1 1 Tryd.underlying69 HI0.out hz0 hz1 hz2 rfl (by omega) (.slice A' k c') k (bc (un2 (r.take (2 * k))).1) rfl HM5.out.o (w3.heap.size + 1) (some ⟨w3.heap.size, 0, none⟩) 1 1 [.int .u8 (Y.toNat : Int)] rfl HA5.out (by intro u hu; simp at hu; subst hu; rfl) (by unfold maxLen; omega) (by omega) HS5.out ?_); intro v' w6 ho hgr _; obtain ⟨A6, c6, rfl⟩ := row_form ho; have HR6 := hide (HM5.out.add hbw HUT.out HFL.out hgr ho); clear ho hgr)
                go_roundw
                case rel => exact ⟨k + 1, A6, c6, by omega, by go_num, rfl, HR6⟩
                case measure => simp [intOf]; omega
            · obtain ⟨l, rfl⟩ : ∃ l : Nat, L = (l : Int) := ⟨L.toNat, by omega⟩
              have hl0 : ¬ (l : Int) < 0 := by omega
              have hv := hY h l (by omega) (by omega) (by omega) (by omega)
              have HFL : Hid ((!bk) = !(bk && ok2 a d)) := hide (by unfold ok2; rw [hH, hL]; simp [ca1, cd1])
              clear hY HCA HCD
              cases bk
              · skip
                have HM3 := HM true
                clear HM
                have hb5 : Below (w3.setCell ⟨b, 1, none⟩ (.bool true)).heap.size (w3.setCell ⟨b, 1, none⟩ (.bool true)) ((w3.setCell ⟨b, 1, none⟩ (.bool true)).alloc (.cells #[.int .u8 (Y.toNat : Int)] T8)) := (Below.refl _ _).alloc (Nat.le_refl _) _
                have HM5 := hide (HM3.out.below hb5)
                have HS5 := hide (Nat.le_trans HM3.out.n.2.size hb5.size)
                have HA5 := hide (show Reads ((w3.setCell ⟨b, 1, none⟩ (.bool true)).alloc (.cells #[.int .u8 (Y.toNat : Int)] T8)) (w3.heap.size + 1) 1 (some ⟨w3.heap.size, 0, none⟩) 1 [.int .u8 (Y.toNat : Int)] by have := reads_one (w3.setCell ⟨b, 1, none⟩ (.bool true)) T8 (.int .u8 (Y.toNat : Int)); simpa using this)
                clear hb5
                go_wp2_with (at_builtin; (refine wpList_append_any _ rfl (.tmp 66) (.tmp 74) _ rfl w.heap.size T8 i0 _ 1 1 Tryd.underlying69 HI0.out hz0 hz1 hz2 rfl (by omega) (.slice A' k c') k (bc (un2 (r.take (2 * k))).1) rfl HM5.out.o (w3.heap.size + 1) (some ⟨w3.heap.size, 0, none⟩) 1 1 [.int .u8 (Y.toNat : Int)] rfl HA5.out (by intro u hu; simp at hu; subst hu; rfl) (by unfold maxLen; omega) (by omega) HS5.out ?_); intro v' w6 ho hgr _; obtain ⟨A6, c6, rfl⟩ := row_form ho; have HR6 := hide (HM5.out.add hbw HUT.out HFL.out hgr ho); clear ho hgr)
                go_roundw
                case rel => exact ⟨k + 1, A6, c6, by omega, by go_num, rfl, HR6⟩
                case measure => simp [intOf]; omega
              · skip
                have HM3 := HM false
                clear HM
                have hb5 : Below (w3.setCell ⟨b, 1, none⟩ (.bool false)).heap.size (w3.setCell ⟨b, 1, none⟩ (.bool false)) ((w3.setCell ⟨b, 1, none⟩ (.bool false)).alloc (.cells #[.int .u8 (Y.toNat : Int)] T8)) := (Below.refl _ _).alloc (Nat.le_refl _) _
                have HM5 := hide (HM3.out.below hb5)
                have HS5 := hide (Nat.le_trans HM3.out.n.2.size hb5.size)
                have HA5 := hide (show Reads ((w3.setCell ⟨b, 1, none⟩ (.bool false)).alloc (.cells #[.int .u8 (Y.toNat : Int)] T8)) (w3.heap.size + 1) 1 (some ⟨w3.heap.size, 0, none⟩) 1 [.int .u8 (Y.toNat : Int)] by have := reads_one (w3.setCell ⟨b, 1, none⟩ (.bool false)) T8 (.int .u8 (Y.toNat : Int)); simpa using this)
                clear hb5
                go_wp2_with (at_builtin; (refine wpList_append_any _ rfl (.tmp 66) (.tmp 74) _ rfl w.heap.size T8 i0 _ 1 1 Tryd.underlying69 HI0.out hz0 hz1 hz2 rfl (by omega) (.slice A' k c') k (bc (un2 (r.take (2 * k))).1) rfl HM5.out.o (w3.heap.size + 1) (some ⟨w3.heap.size, 0, none⟩) 1 1 [.int .u8 (Y.toNat : Int)] rfl HA5.out (by intro u hu; simp at hu; subst hu; rfl) (by unfold maxLen; omega) (by omega) HS5.out ?_); intro v' w6 ho hgr _; obtain ⟨A6, c6, rfl⟩ := row_form ho; have HR6 := hide (HM5.out.add hbw HUT.out HFL.out hgr ho); clear ho hgr)
                go_roundw
                case rel => exact ⟨k + 1, A6, c6, by omega, by go_num, rfl, HR6⟩
                case measure => simp [intOf]; omega
      · have hk2 : 2 * k = r.length := by omega
        have hltI : ¬ (2 * (k : Int)) < r.length := by omega
        have HR := hide (show NxP w b ws.tail (!(un2 r).2) wr ∧ wr.ownsRow w.heap.size T8 1 (.slice A' k c') k (bc (un2 r).1) by
          have h1 := HI.out.n
          have h2 := HI.out.o
          rw [hk2, List.take_length] at h1 h2
          exact ⟨h1, h2⟩)
        have hln : k = (un2 r).1.length := by
          have := HR.out.2.1
          rw [bc_len] at this; omega
        have hcv := bc_string HR.out.2 hln
        clear HI
        clear hln hk2
        go_wp2
        go_ret
        refine ⟨(un2 r).1, rfl, fun l h1 _ => ?_, ?_⟩
        · rw [HUN.out] at h1
          split at h1
          · injection h1
          · cases h1
        · have e : (bad || (unhexO x).isNone) = !(un2 r).2 := by
            rw [HUN.out, HWS.out.2]
            cases (un2 r).2 <;> simp [hev]
          rw [e]
          exact HR.out.1
  · have hcon : ∀ l, unhexO x = some l → bad = false → False := by
      intro l hl2 hb2
      have he := HEM.out l hl2
      have h1 := HB1.out
      rw [hb2, he] at h1
      have hun := HUN.out
      rw [hl2] at hun
      split at hun
      · rename_i hc
        exact hgo ⟨h1.symm, hc.1, hc.2.1⟩
      · cases hun
    have hfl : (bad || (unhexO x).isNone) = true := by
      cases hbb : bad
      · cases hu : unhexO x with
        | none => rfl
        | some l => exact absurd hbb (fun h => hcon l hu h)
      · rfl
    have HCON := hide hcon
    have HFL := hide hfl
    have HN3 := hide (HN1.out.set true)
    have hcs : b1 = true ∨ (b1 = false ∧ pf = false) ∨ (b1 = false ∧ pf = true ∧ (r.length : Int).tmod 2 = 1) := by
      cases b1
      · cases pf
        · exact .inr (.inl ⟨rfl, rfl⟩)
        · refine .inr (.inr ⟨rfl, rfl, ?_⟩)
          have : ¬ r.length % 2 = 0 := fun h => hgo ⟨rfl, rfl, h⟩
          rw [Int.tmod_eq_emod_of_nonneg (by omega)]; omega
      · exact .inl rfl
    clear hcon hfl hgo
    rcases hcs with rfl | ⟨rfl, rfl⟩ | ⟨rfl, rfl, hodI⟩
    all_goals
      go_wp2_with fail
      go_ret
      refine ⟨[], rfl, fun l h1 h2 => (HCON.out l h1 h2).elim, ?_⟩
      rw [HFL.out]
      exact HN3.out
end Go.Proofs.YtcdhngppcpgojaaDoor
