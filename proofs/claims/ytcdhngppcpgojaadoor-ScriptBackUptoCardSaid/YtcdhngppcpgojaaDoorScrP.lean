/- A script's text, by the document. -/
import Derived.Test.YtcdhngppcpgojaaDoorScrO
import Derived.Lib.AppendStr
namespace Go.Proofs.YtcdhngppcpgojaaDoor
set_option linter.unusedSimpArgs false
set_option linter.unusedVariables false
open Go.RowKit
theorem strCells_bc (l : List UInt8) : Lib.strCells ⟨l.toArray⟩ = bc l := by unfold bc; simp [Lib.strCells]
theorem bc_app (a b : List UInt8) : bc (a ++ b) = bc a ++ bc b := by unfold bc; simp
structure RI (w : World) (l : List Ac) (k : Nat) (v : Value) (out : List UInt8) (wr : World) : Prop where
  b : Below w.heap.size w wr
  g : ∀ x ∈ l.take k, x.good
  o : wr.ownsRow w.heap.size T8 1 v out.length (bc out)
  s : out.length ≤ 262144 → out = outs (l.take k)
  t : 262144 < out.length → 262144 < (outs (l.take k)).length
  m : out.length ≤ 700000000
theorem RI.later {w wr w' : World} {l : List Ac} {k : Nat} {v : Value} {out : List UInt8} (h : RI w l k v out wr) (hb : Below wr.heap.size wr w') : RI w l k v out w' := ⟨h.b.trans (hb.mono h.b.size), h.g, own_later h.o hb, h.s, h.t, h.m⟩
theorem RI.add {w wr w' : World} {l : List Ac} {k : Nat} {v v' : Value} {out L : List UInt8} (h : RI w l k v out wr) (hot : outs (l.take (k + 1)) = outs (l.take k) ++ (L ++ [10])) (hg : ∀ y ∈ l.take (k + 1), y.good) (hL : L.length ≤ 600000000) (hs : out.length ≤ 262144)
    (hb : Below w.heap.size wr w') (ho : w'.ownsRow w.heap.size T8 1 v' (out.length + L.length + 1) (bc out ++ bc L ++ [.int .u8 10])) : RI w l (k + 1) v' (out ++ (L ++ [10])) w' := by
  have e : out ++ (L ++ [10]) = outs (l.take (k + 1)) := by rw [hot, ← h.s hs]
  refine ⟨h.b.trans hb, hg, ?_, fun _ => e, fun h2 => by rw [← e]; exact h2, by simp; omega⟩
  have e2 : (out ++ (L ++ [10])).length = out.length + L.length + 1 := by simp; omega
  rw [e2, bc_app, bc_app, ← List.append_assoc]
  exact ho
theorem RI.skip {w wr : World} {l : List Ac} {k : Nat} {v : Value} {out L : List UInt8} (h : RI w l k v out wr) (hot : outs (l.take (k + 1)) = outs (l.take k) ++ (L ++ [10])) (hg : ∀ y ∈ l.take (k + 1), y.good) (hs : 262144 < out.length) : RI w l (k + 1) v out wr :=
  ⟨h.b, hg, h.o, fun h2 => absurd hs (by omega), fun h2 => by have := h.t h2; rw [hot, List.length_append]; omega, h.m⟩
set_option maxRecDepth 100000 in
set_option maxHeartbeats 8000000 in
theorem rscript_any (l : List Ac) (A : Option Addr) (n c : Nat) (w : World) (h : AL w w.heap.size A n l) (hn : n ≤ 1048576) :
    Calls Tryd.prog 14 #[.slice A n c] w fun e w' => SP l w e w' := by
  have H := hide h
  have hl := h.sl.len
  obtain ⟨i0, hi0, hz0, hz1, hz2⟩ := info_parts u8_info
  have HI0 := hide hi0
  clear h hi0
  have HR0 := hide (show RI w l 0 (.slice (some ⟨w.heap.size, 0, none⟩) 0 0) [] (w.alloc (.cells #[] T8)) from ⟨(Below.refl _ _).alloc (Nat.le_refl _) _, by simp, World.ownsRow_made w #[] 0 (Nat.le_refl _) (by decide) rfl, fun _ => by simp [outs], fun h => by simp at h, by simp⟩)
  go_enter Tryd.func14, Tryd.ntmps14
  go_wp2
  go_loopw [4, 5] (fun v i wr => ∃ (k : Nat) (out : List UInt8) (A' : Option Addr) (c' : Nat), k ≤ n ∧ i = .int .i64 k ∧ v = .slice A' out.length c' ∧ Hid (RI w l k v out wr)) (fun _ i _ => n - (intOf i).toNat)
  case atStart => exact ⟨0, [], _, _, by omega, rfl, rfl, HR0⟩
  case round =>
    obtain ⟨k, out, A', c', hk, rfl, rfl, HI⟩ := hrel
    have hm := HI.out.m
    by_cases hlt : k < n
    · obtain ⟨bg, o, rfl, hbg, hc⟩ := Sl.at (H.out.sl.below HI.out.b) Ac.enc_len (by omega) (by omega)
      obtain ⟨x, hx⟩ : ∃ x, l[k]'(by omega) = x := ⟨_, rfl⟩
      have hcx := hc k (by omega)
      rw [hx] at hcx
      have hxm : x ∈ l := by rw [← hx]; exact List.getElem_mem _
      have hxo := (H.out.ok x hxm).below HI.out.b
      have hxs := H.out.sz x hxm
      have hot := outs_take l k (by omega)
      have hgt : x.good → ∀ y ∈ l.take (k + 1), y.good := fun hg => good_take (l := l) (k := k) (by omega) HI.out.g (by rw [hx]; exact hg)
      have hll : x.good → x.line.length ≤ 600000000 := fun hg => line_len hxo hg hxs.2.2
      rw [hx] at hot
      have z0 : bg < wr.heap.size := Nat.lt_of_lt_of_le hbg HI.out.b.size
      obtain ⟨kind, s, an, mask, okind, a, b, A, p, pc, path, owner, text⟩ := x
      have c0 := hcx 0 _ rfl
      have c1 := hcx 1 _ rfl
      have c2 := hcx 2 _ rfl
      have c3 := hcx 3 _ rfl
      have c4 := hcx 4 _ rfl
      have c5 := hcx 5 _ rfl
      have c6 := hcx 6 _ rfl
      have c7 := hcx 7 _ rfl
      have c8 := hcx 8 _ rfl
      have c9 := hcx 9 _ rfl
      simp only [Nat.add_zero] at c0
      have HX6 := hide (hxo.more HI.out.b.size)
      have HOT := hide hot
      have HGT := hide hgt
      have HXM := hide hxm
      have HX := hide hx
      have HXS := hide hxs
      have HLL := hide hll
      clear hc hcx hxo hot hgt hxm hx hxs hll
      by_cases hg : (Ac.mk kind s an mask okind a b A p pc path owner text).good
      · have HG := hide (HGT.out hg)
        have HC := hide (ract_any _ wr HX6.out hg (by have := HXS.out.2.2; omega))
        have hll := HLL.out hg
        obtain ⟨L, hL⟩ : ∃ L, Ac.line ⟨kind, s, an, mask, okind, a, b, A, p, pc, path, owner, text⟩ = L := ⟨_, rfl⟩
        rw [hL] at HC HOT hll
        clear hg hL HGT
        go_upto_region 6 with (go_at_call 16; (refine HC.out.mono ?_); rintro e w7 ⟨rfl, hb7⟩; have HI7 := hide (HI.out.later hb7); clear hb7)
        clear c0 c1 c2 c3 c4 c5 c6 c7 c8 c9
        by_cases hr : out.length ≤ 262144
        · have hrI : (out.length : Int) ≤ 262144 := by omega
          go_upto_region 10 with (at_builtin; (refine Lib.wpList_append_own_string _ rfl (.tmp 28) (.tmp 29) _ _ rfl w.heap.size T8 i0 Tryd.underlying69 Tryd.underlying9 HI0.out hz0 hz1 hz2 (.slice A' out.length c') out.length (bc out) rfl HI7.out.o ⟨L.toArray⟩ rfl (by rw [str_size]; unfold maxLen; omega) (by rw [str_size]; omega) HI7.out.b.size ?_); intro v' w9 ho hgr _; rw [str_size, strCells_bc] at ho; obtain ⟨A9, c9, rfl⟩ := row_form ho; have HO9 := hide ho; have HB9 := hide (grown_below HI7.out.o hgr HI7.out.b.size); clear ho hgr)
          have hb10 : Below w9.heap.size w9 (w9.alloc (.cells #[.int .u8 10] T8)) := (Below.refl _ _).alloc (Nat.le_refl _) _
          have HA := hide (reads_one w9 T8 (.int .u8 10))
          have HO10 := hide (own_later HO9.out hb10)
          have HS9 := hide (Nat.le_trans HI7.out.b.size HB9.out.size)
          have HB10 := hide (HB9.out.trans (hb10.mono HS9.out))
          have HS10 := hide (Nat.le_trans HS9.out hb10.size)
          clear hb10
          go_wp2_with (at_builtin; (refine wpList_append_any _ rfl (.tmp 31) (.tmp 32) _ rfl w.heap.size T8 i0 _ 1 1 Tryd.underlying69 HI0.out hz0 hz1 hz2 rfl (by omega) (.slice A9 (out.length + L.length) c9) (out.length + L.length) (bc out ++ bc L) rfl HO10.out (w9.heap.size + 1) (some ⟨w9.heap.size, 0, none⟩) 1 1 [.int .u8 10] rfl HA.out (by intro u hu; simp at hu; subst hu; rfl) (by unfold maxLen; omega) (by omega) HS10.out ?_); intro v' w11 ho hgr _; obtain ⟨A11, c11, rfl⟩ := row_form ho; have HR11 := hide (HI7.out.add HOT.out HG.out hll hr (HB10.out.trans (grown_below HO10.out hgr HS10.out)) ho); clear ho hgr)
          go_roundw
          case rel => exact ⟨k + 1, out ++ (L ++ [10]), A11, c11, by omega, by go_num, by simp; omega, HR11⟩
          case measure => simp [intOf]; omega
        · have hrI : ¬ (out.length : Int) ≤ 262144 := by omega
          have HR9 := hide (HI7.out.skip HOT.out HG.out (by omega))
          go_wp2
          go_roundw
          case rel => exact ⟨k + 1, out, A', c', by omega, by go_num, rfl, HR9⟩
          case measure => simp [intOf]; omega
      · have HC := hide (ract_bad _ wr hg (by have := HXS.out.1; omega) (by have := HXS.out.2.1; omega))
        have hsv : SV l = ([], 2) := by
          unfold SV
          rw [if_neg (fun h => hg (h _ HXM.out))]
        have HSV := hide hsv
        clear hg hsv HGT
        go_wp2_with (go_at_call 16; (refine HC.out.mono ?_); rintro e w7 ⟨rfl, hb7⟩; have HB7 := hide (HI.out.b.trans (hb7.mono HI.out.b.size)); clear hb7 c0 c1 c2 c3 c4 c5 c6 c7 c8 c9)
        refine bodyPost_ret (v := .tuple #[str [], .int .i64 2]) (by simp [results, Tryd.results14, go_sem]) rfl ⟨by rw [HSV.out], HB7.out⟩
    · have htk : l.take k = l := List.take_of_length_le (by omega)
      have hgood := HI.out.g
      have hs := HI.out.s
      have ht := HI.out.t
      rw [htk] at hgood hs ht
      have HB := hide HI.out.b
      have HO := hide HI.out.o
      have hkn : k = n := by omega
      subst hkn
      clear HI
      by_cases h2 : 4096 < k
      · have hsv : SV l = ([], 12) := by unfold SV; rw [if_pos hgood, if_pos (.inr (by omega))]
        have HSV := hide hsv
        clear hsv hgood hs ht
        go_wp2
        refine bodyPost_ret (v := .tuple #[str [], .int .i64 12]) (by simp [results, Tryd.results14, go_sem]) rfl ⟨by rw [HSV.out], HB.out⟩
      · by_cases h1 : 262144 < out.length
        · have h1I : (262144 : Int) < out.length := by omega
          have hsv : SV l = ([], 12) := by unfold SV; rw [if_pos hgood, if_pos (.inl (ht h1))]
          have HSV := hide hsv
          clear hsv hgood hs ht
          go_wp2
          refine bodyPost_ret (v := .tuple #[str [], .int .i64 12]) (by simp [results, Tryd.results14, go_sem]) rfl ⟨by rw [HSV.out], HB.out⟩
        · have h1I : ¬ (262144 : Int) < out.length := by omega
          have he := hs (by omega)
          have hsv : SV l = (out, 0) := by unfold SV; rw [if_pos hgood, if_neg (by rw [← he]; omega), ← he]
          have HSV := hide hsv
          have hcv := bc_string HO.out rfl
          clear hsv hgood hs ht he
          go_wp2
          refine bodyPost_ret (v := .tuple #[str out, .int .i64 0]) (by simp [results, Tryd.results14, go_sem]) rfl ⟨by rw [HSV.out], HB.out⟩
end Go.Proofs.YtcdhngppcpgojaaDoor
