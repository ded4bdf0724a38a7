/- A script's text: script.Script. -/
import Derived.Test.YtcdhngppcpgojaaDoorScrN
namespace Go.Proofs.YtcdhngppcpgojaaDoor
set_option linter.unusedSimpArgs false
set_option linter.unusedVariables false
open Go.RowKit
structure SI (w : World) (l : List Ac) (k : Nat) (room : Int) (v : Value) (wr : World) : Prop where
  b : Below w.heap.size w wr
  r : room = 262144 - ((outs (l.take k)).length : Int)
  g : ∀ x ∈ l.take k, x.good
  o : ∃ xs : List (List UInt8), wr.ownsRow w.heap.size TStr 1 v xs.length (xs.map str) ∧ xs.length ≤ 2 * k ∧ (0 ≤ room → xs.flatten = outs (l.take k))
theorem SI.later {w wr w' : World} {l : List Ac} {k : Nat} {room : Int} {v : Value} (h : SI w l k room v wr) (hb : Below wr.heap.size wr w') : SI w l k room v w' := by
  obtain ⟨xs, h1, h2, h3⟩ := h.o
  exact ⟨h.b.trans (hb.mono h.b.size), h.r, h.g, xs, own_later h1 hb, h2, h3⟩
theorem two_reads (w : World) (a b : Value) : Reads (w.alloc (.cells #[a, b] TStr)) (w.heap.size + 1) 1 (some ⟨w.heap.size, 0, none⟩) 2 [a, b] := by
  refine ⟨rfl, fun _ => ⟨_, rfl, Nat.lt_succ_self _, fun j y hy => ?_⟩⟩
  rw [show (⟨w.heap.size, 0, none⟩ : Addr).add j = ⟨w.heap.size, j, none⟩ by unfold Addr.add; split <;> simp_all, (Blk.new w TStr #[a, b]).cell, ← Array.getElem?_toList]
  exact hy
theorem grown_below {w w' : World} {base : Nat} {e : TypeId} {size : Nat} {v : Value} {n : Nat} {xs : List Value} (h : w.ownsRow base e size v n xs) (hg : w.grownBy w' v.ownBlock) (hb : base ≤ w.heap.size) : Below base w w' :=
  ⟨hg.os, hg.tape, hg.output, hg.size, fun j hj => hg.block j (by omega) (fun e => by have := (h.lt j e.symm).1; omega)⟩
theorem SI.add {w wr w' : World} {l : List Ac} {k : Nat} {rm : Int} {v v' : Value} {L : List UInt8} {xs : List (List UInt8)} (h : SI w l k rm v wr) (hot : outs (l.take (k + 1)) = outs (l.take k) ++ (L ++ [10])) (hg : ∀ y ∈ l.take (k + 1), y.good)
    (hx2 : xs.length ≤ 2 * k) (hx3 : 0 ≤ rm → xs.flatten = outs (l.take k)) (hr : 0 ≤ rm - ((L.length : Int) + 1)) (hb : Below w.heap.size wr w')
    (ho : w'.ownsRow w.heap.size TStr 1 v' (xs.length + 2) (xs.map str ++ [str L, str [10]])) : SI w l (k + 1) (rm - ((L.length : Int) + 1)) v' w' := by
  refine ⟨h.b.trans hb, ?_, hg, xs ++ [L, [10]], by simpa using ho, by simp; omega, fun _ => ?_⟩
  · have := h.r
    rw [hot, List.length_append, List.length_append, List.length_singleton]; omega
  · rw [hot, List.flatten_append, hx3 (by omega)]; simp
theorem SI.skip {w wr : World} {l : List Ac} {k : Nat} {rm : Int} {v : Value} {L : List UInt8} (h : SI w l k rm v wr) (hot : outs (l.take (k + 1)) = outs (l.take k) ++ (L ++ [10])) (hg : ∀ y ∈ l.take (k + 1), y.good)
    (hr : rm - ((L.length : Int) + 1) < 0) : SI w l (k + 1) (rm - ((L.length : Int) + 1)) v wr := by
  obtain ⟨xs, h1, h2, h3⟩ := h.o
  refine ⟨h.b, ?_, hg, xs, h1, by omega, fun h0 => absurd h0 (by omega)⟩
  have := h.r
  rw [hot, List.length_append, List.length_append, List.length_singleton]; omega
def zeroAct : Array Value := #[.int .i64 0, .int .i64 0, .int .i64 0, .int .u64 0, .int .i64 0, .int .i64 0, .int .i64 0, .slice none 0 0, .string ⟨#[]⟩, .string ⟨#[]⟩]
def SP (l : List Ac) (w : World) (e : Ending) (w' : World) : Prop := e = .returned (.tuple #[str (SV l).1, .int .i64 (SV l).2]) ∧ Below w.heap.size w w'
set_option maxRecDepth 100000 in
set_option maxHeartbeats 8000000 in
theorem sscript_any (l : List Ac) (A : Option Addr) (n c : Nat) (w : World) (h : AL w w.heap.size A n l) (hwd : Wd w) (hn : n ≤ 1048576) :
    Calls Tryd.prog 13 #[.slice A n c] w fun e w' => SP l w e w' := by
  have H := hide h
  have HW := hide hwd
  have hl := h.sl.len
  obtain ⟨i0, hi0, hz0, hz1, hz2⟩ := info_parts str_info
  have HI0 := hide hi0
  clear h hwd hi0
  go_enter Tryd.func13, Tryd.ntmps13
  go_wp2
  go_loopw [4, 5, 12] (fun room v i wr => ∃ (k : Nat) (rm : Int), k ≤ n ∧ i = .int .i64 k ∧ room = .int .i64 rm ∧ Hid (SI w l k rm v wr)) (fun _ _ i _ => n - (intOf i).toNat)
  case atStart => exact ⟨0, 262144, by omega, rfl, rfl, hide ⟨Below.refl _ _, by simp [outs], by simp, [], World.ownsRow_nil _ _ _ _, by simp, fun _ => by simp [outs]⟩⟩
  case round =>
    obtain ⟨k, rm, hk, rfl, rfl, HI⟩ := hrel
    have hlines : ∀ x ∈ l.take k, x.line.length ≤ 600000000 := fun x hx => line_len (H.out.ok x (List.mem_of_mem_take hx)) (HI.out.g x hx) (H.out.sz x (List.mem_of_mem_take hx)).2.2
    have hol := outs_len 600000000 (l.take k) hlines
    have hrm : -700000000000000 ≤ rm ∧ rm ≤ 262144 := by
      have := HI.out.r
      rw [List.length_take] at hol
      have h2 : min k l.length * (600000000 + 1) ≤ 1048576 * (600000000 + 1) := Nat.mul_le_mul_right _ (by omega)
      omega
    obtain ⟨r1, r2⟩ := hrm
    clear hlines hol
    by_cases hlt : k < n
    · obtain ⟨bg, o, rfl, hbg, hc⟩ := Sl.at (H.out.sl.below HI.out.b) Ac.enc_len (by omega) (by omega)
      obtain ⟨x, hx⟩ : ∃ x, l[k]'(by omega) = x := ⟨_, rfl⟩
      have hcx := hc k (by omega)
      rw [hx] at hcx
      have hxm : x ∈ l := by rw [← hx]; exact List.getElem_mem _
      have hxo := (H.out.ok x hxm).below HI.out.b
      have hxs := H.out.sz x hxm
      have hot := outs_take l k (by omega)
      have hgt : x.good → ∀ y ∈ l.take (k + 1), y.good := fun hg => good_take (l := l) (k := k) (by omega) HI.out.g (by rw [hx]; exact hg)
      have hll : x.good → x.line.length ≤ 600000000 := fun hg => line_len hxo hg hxs.2.2
      rw [hx] at hot
      have z0 : bg < wr.heap.size := Nat.lt_of_lt_of_le hbg HI.out.b.size
      obtain ⟨kind, s, an, mask, okind, a, b, A, p, pc, path, owner, text⟩ := x
      have c0 := hcx 0 _ rfl
      have c1 := hcx 1 _ rfl
      have c2 := hcx 2 _ rfl
      have c3 := hcx 3 _ rfl
      have c4 := hcx 4 _ rfl
      have c5 := hcx 5 _ rfl
      have c6 := hcx 6 _ rfl
      have c7 := hcx 7 _ rfl
      have c8 := hcx 8 _ rfl
      have c9 := hcx 9 _ rfl
      simp only [Nat.add_zero] at c0
      have HXO := hide hxo
      have HOT := hide hot
      have HGT := hide hgt
      have HXM := hide hxm
      have HX := hide hx
      clear hc hcx hxo hot hgt hxm hx
      have HXS := hide hxs
      have HLL := hide hll
      clear hxs hll
      go_upto_region 6 with fail
      clear c0 c1 c2 c3 c4 c5 c6 c7 c8 c9
      obtain ⟨W6, hW6, hb6, hk6⟩ : ∃ W6, wr.alloc (Obj.cells #[.int .i64 kind, .int .i64 s, .int .i64 an, .int .u64 mask, .int .i64 okind, .int .i64 a, .int .i64 b, .slice A p pc, str owner, str text] TAct) = W6 ∧ Below wr.heap.size wr W6 ∧ Blk W6 wr.heap.size TAct #[.int .i64 kind, .int .i64 s, .int .i64 an, .int .u64 mask, .int .i64 okind, .int .i64 a, .int .i64 b, .slice A p pc, str owner, str text] := ⟨_, rfl, (Below.refl _ _).alloc (Nat.le_refl _) _, Blk.new _ _ _⟩
      rw [hW6]
      have k6 := hk6.cell; have z6 := hk6.lt
      have HX6 := hide ((HXO.out.more HI.out.b.size).below hb6 |>.more hb6.size)
      have HW6 := hide ((HW.out.below HI.out.b).below hb6)
      have HI6 := hide (HI.out.later hb6)
      clear hW6 hb6 hk6 HI HXO
      by_cases hg : (Ac.mk kind s an mask okind a b A p pc path owner text).good
      · have HG := hide (HGT.out hg)
        have HC := hide (act_ok _ W6 HX6.out hg HW6.out.t HW6.out.k HW6.out.g (by have := HXS.out.2.2; omega) (by have := HLL.out hg; omega))
        have hll := HLL.out hg
        obtain ⟨L, hL⟩ : ∃ L, Ac.line ⟨kind, s, an, mask, okind, a, b, A, p, pc, path, owner, text⟩ = L := ⟨_, rfl⟩
        rw [hL] at HC HOT hll
        clear hg hL HGT
        go_upto_region 7 with (go_at_call 15; (refine HC.out.mono ?_); rintro e w7 ⟨rfl, hb7⟩; have HI7 := hide (HI6.out.later hb7); clear hb7 k6 z6)
        by_cases hr : 0 ≤ rm - ((L.length : Int) + 1)
        · have hb8 : Below w7.heap.size w7 (w7.alloc (.cells #[str L, str [10]] TStr)) := (Below.refl _ _).alloc (Nat.le_refl _) _
          have HA := hide (two_reads w7 (str L) (str [10]))
          obtain ⟨xs, ho7, hx2, hx3⟩ := HI7.out.o
          have HO8 := hide (own_later ho7 hb8)
          have HX3 := hide hx3
          have HB8 := hide (hb8.mono HI7.out.b.size)
          have HS8 := hide (show w.heap.size ≤ (w7.alloc (.cells #[str L, str [10]] TStr)).heap.size from Nat.le_trans HI7.out.b.size hb8.size)
          have hxn : xs.length + 2 ≤ 4000000 := by omega
          clear ho7 hx3 hb8
          go_wp2_with (at_builtin; (refine wpList_append_any _ rfl (.tmp 31) (.tmp 33) _ rfl w.heap.size TStr i0 _ 1 16 Tryd.underlying58 HI0.out hz0 hz1 hz2 rfl (by omega) u5 xs.length (xs.map str) rfl HO8.out (w7.heap.size + 1) (some ⟨w7.heap.size, 0, none⟩) 2 2 [str L, str [10]] rfl HA.out (by intro u hu; simp at hu; rcases hu with rfl | rfl <;> rfl) (by unfold maxLen; omega) (by omega) HS8.out ?_); intro v' w9 ho hgr _; obtain ⟨A9, c9, rfl⟩ := row_form ho; have HR9 := hide (HI7.out.add HOT.out HG.out hx2 HX3.out hr (HB8.out.trans (grown_below HO8.out hgr HS8.out)) ho); clear ho hgr)
          go_roundw
          case rel => exact ⟨k + 1, rm - ((L.length : Int) + 1), by omega, by go_num, rfl, HR9⟩
          case measure => simp [intOf]; omega
        · have HR9 := hide (HI7.out.skip HOT.out HG.out (by omega))
          go_wp2
          go_roundw
          case rel => exact ⟨k + 1, rm - ((L.length : Int) + 1), by omega, by go_num, rfl, HR9⟩
          case measure => simp [intOf]; omega
      · have HC := hide (act_bad _ W6 hg (by have := HXS.out.1; omega) (by have := HXS.out.2.1; omega))
        have hsv : SV l = ([], 2) := by
          unfold SV
          rw [if_neg (fun h => hg (h _ HXM.out))]
        have HSV := hide hsv
        clear hg hsv HGT
        go_wp2_with (go_at_call 15; (refine HC.out.mono ?_); rintro e w7 ⟨rfl, hb7⟩; have HB7 := hide (HI6.out.b.trans (hb7.mono HI6.out.b.size)); clear hb7 k6 z6)
        refine bodyPost_ret (v := .tuple #[str [], .int .i64 2]) (by simp [results, Tryd.results13, go_sem]) rfl ⟨by rw [HSV.out], HB7.out⟩
    · have htk : l.take k = l := List.take_of_length_le (by omega)
      have hgood := HI.out.g
      have hrr := HI.out.r
      obtain ⟨xs, ho, hx2, hx3⟩ := HI.out.o
      rw [htk] at hgood hrr hx3
      have HB := hide HI.out.b
      have hkn : k = n := by omega
      subst hkn
      clear HI
      by_cases h1 : rm < 0
      · have hsv : SV l = ([], 12) := by unfold SV; rw [if_pos hgood, if_pos (.inl (by omega))]
        have HSV := hide hsv
        clear hsv hgood hx3
        go_wp2
        refine bodyPost_ret (v := .tuple #[str [], .int .i64 12]) (by simp [results, Tryd.results13, go_sem]) rfl ⟨by rw [HSV.out], HB.out⟩
      · by_cases h2 : 4096 < k
        · have hsv : SV l = ([], 12) := by unfold SV; rw [if_pos hgood, if_pos (.inr (by omega))]
          have HSV := hide hsv
          clear hsv hgood hx3
          go_wp2
          refine bodyPost_ret (v := .tuple #[str [], .int .i64 12]) (by simp [results, Tryd.results13, go_sem]) rfl ⟨by rw [HSV.out], HB.out⟩
        · have hsv : SV l = (outs l, 0) := by unfold SV; rw [if_pos hgood, if_neg (by omega)]
          have hfl := hx3 (by omega)
          have HJ := hide (join_row ho (by omega) (by rw [hfl]; omega))
          rw [hfl] at HJ
          obtain ⟨S, hS⟩ : ∃ S, outs l = S := ⟨_, rfl⟩
          rw [hS] at HJ hsv
          have HSV := hide hsv
          clear hsv hgood hx3 hfl ho hS
          go_wp2_with (go_at_call 28; (refine HJ.out.mono ?_); rintro e w7 ⟨rfl, hb7⟩; have HB7 := hide (HB.out.trans (hb7.mono HB.out.size)); clear hb7)
          refine bodyPost_ret (v := .tuple #[str S, .int .i64 0]) (by simp [results, Tryd.results13, go_sem]) rfl ⟨by rw [HSV.out], HB7.out⟩
end Go.Proofs.YtcdhngppcpgojaaDoor
