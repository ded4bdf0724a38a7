/- The pager: Open. -/
import Derived.Test.YtddcmockdomonaaPgT
namespace Go.Proofs.Ytddcmockdomonaa
set_option linter.unusedSimpArgs false
set_option linter.unusedVariables false
open Go.RowKit
/-- The root that is there behind one more sector. -/
def opnF (n : Nat) (a : Int × Int) (c : Cn) : Int × Int := if supC c && decide (a.1 < (supS c : Int)) && ((supR c : Int) == 0 || pgB n (supR c)) then ((supS c : Int), (supR c : Int)) else a
def opnK (n : Nat) (S : Int → Cn) (L : List (Int × Cn)) : Nat → Int × Int
  | 0 => (0, 0)
  | k + 1 => opnF n (opnK n S L k) (nowC S L (k : Int))
def zeroSt (n : Nat) : Cn := List.replicate n 0
theorem made_zero (n : Nat) : madeCells #[Value.int .u8 0] n = (cs8 (zeroSt n)).toArray := by
  apply Array.ext'
  rw [toList_madeCells_one]
  unfold zeroSt
  rw [cs8_zeros]
theorem sec_read0 {w : World} {F : Nat → Prop} {b : Nat} {left size : Int} {S : Int → Cn} {L : List (Int × Cn)} {N : Nat} (h : Sec w F b false left size S L N) (at_ : Int) (ha : 0 ≤ at_ ∧ at_ < size) :
    Calls Try.prog 25 #[.pointer (some ⟨b, 0, none⟩), .int .i64 at_] w fun e w' => (∃ v, e = .returned (.tuple #[v, .int .i64 0]) ∧ Fil w' (fun j => w.heap.size ≤ j) v (nowC S L at_)) ∧ Below w.heap.size w w' := by
  obtain ⟨m, u, n, D, us, h⟩ := h
  exact sec_read_ok h at_ (by unfold faultE; simp; omega)
set_option maxRecDepth 100000 in
set_option maxHeartbeats 2000000 in
theorem popen_ok {w : World} {F : Nat → Prop} {db n : Nat} {left : Int} {S : Int → Cn} {L : List (Int × Cn)} {N : Nat} (h : Sec w F db false left (n : Int) S L N) (h4 : 4 ≤ n) :
    Calls Try.prog 8 #[.pointer (some ⟨db, 0, none⟩)] w fun e w' => ∃ pb sb, e = .returned (.tuple #[.pointer (some ⟨pb, 0, none⟩), .int .i64 0]) ∧ w.heap.size ≤ pb ∧ w.heap.size ≤ sb ∧
      Blk w' pb TP (pk db sb n (opnK n S L 2).1 (opnK n S L 2).2 0 false) ∧ Blk w' sb T8 (cs8 (zeroSt n)).toArray ∧ Below w.heap.size w w' := by
  have hn : n ≤ 65536 := by obtain ⟨_, _, _, _, _, h⟩ := h; have := h.hs; omega
  have H := hide h
  have d1 : decide ((n : Int) < 4) = false := by simp; omega
  clear h
  have hmk := run_make_row' (P := Try.prog) 33 5 (.int .u8 0) 1 Try.underlying33 u8_info rfl .i64 .i64 n (by omega) (by omega)
  have HF := hide (made_zero n)
  go_enter Try.func8, Try.ntmps8
  go_wp2_with (first | (go_at_call 23; (refine (sec_len (H.out.below HB2.out)).mono ?_); rintro e w3 ⟨rfl, hb⟩; have HB3 := hide (HB2.out.trans (hb.mono HB2.out.size)); clear hb) | (go_at_call 24; (refine (sec_down (H.out.below HB1.out)).mono ?_); rintro e w2 ⟨rfl, hb⟩; have HB2 := hide (HB1.out.trans (hb.mono HB1.out.size)); clear hb) | (go_at_call 23; (refine (sec_len H.out).mono ?_); rintro e w1 ⟨rfl, hb⟩; have HB1 := hide hb; clear hb))
  obtain ⟨W0, hW0⟩ : ∃ W0, ((w3.alloc (Obj.cells (madeCells #[Value.int .u8 0] n) T8)).alloc (Obj.cells (pk db w3.heap.size n 0 0 0 false) TP)) = W0 := ⟨_, rfl⟩
  have hb0 : Below w.heap.size w W0 := by rw [← hW0]; exact (HB3.out.alloc HB3.out.size _).alloc (by have := HB3.out.size; simp; omega) _
  have hk0 : Blk W0 (w3.heap.size + 1) TP (pk db w3.heap.size n 0 0 0 false) := by rw [← hW0]; have := Blk.new (w3.alloc (Obj.cells (madeCells #[Value.int .u8 0] n) T8)) TP (pk db w3.heap.size n 0 0 0 false); rw [heap_al] at this; exact this
  have hs0 : Blk W0 w3.heap.size T8 (cs8 (zeroSt n)).toArray := by rw [← hW0, ← HF.out]; exact (Blk.new w3 T8 _).alloc _
  have e0 : #[Value.pointer (some { block := db, off := 0 }), Value.slice (some { block := w3.heap.size, off := 0 }) n n, Value.int IntKind.i64 0, Value.int IntKind.i64 0, Value.int IntKind.i64 0, Value.bool false] = pk db w3.heap.size n 0 0 0 false := rfl
  rw [e0]
  rw [hW0]
  obtain ⟨pb, hpb⟩ : ∃ pb, w3.heap.size + 1 = pb := ⟨_, rfl⟩
  obtain ⟨sb, hsb⟩ : ∃ sb, w3.heap.size = sb := ⟨_, rfl⟩
  have hle := HB3.out.size
  rw [hpb, hsb] at hk0
  rw [hsb] at hs0 hle hpb ⊢
  rw [hpb]
  have HNE := hide (show sb ≠ pb by omega)
  have HPB := hide (show w.heap.size ≤ pb by omega)
  have HSB := hide (show w.heap.size ≤ sb by omega)
  have HI0 := hide (And.intro hb0 (And.intro hk0 hs0))
  clear hW0 hb0 hk0 hs0 hpb hsb hle hmk d1 e0
  go_loopw [24] (fun i wr => ∃ k : Nat, k ≤ 2 ∧ i = .int .i64 k ∧ Hid (Below w.heap.size w wr ∧ Blk wr pb TP (pk db sb n (opnK n S L k).1 (opnK n S L k).2 0 false) ∧ Blk wr sb T8 (cs8 (zeroSt n)).toArray)) (fun i _ => 2 - (intOf i).toNat)
  case atStart => exact ⟨0, by omega, rfl, HI0⟩
  case round =>
    obtain ⟨k, hk, rfl, HI⟩ := hrel
    by_cases hlt : k < 2
    · obtain ⟨c, hc⟩ : ∃ c, nowC S L (k : Int) = c := ⟨_, rfl⟩
      have hK : opnK n S L (k + 1) = opnF n (opnK n S L k) c := by rw [← hc]; rfl
      have HCC := hide hc
      clear hc
      obtain ⟨a1, ha1⟩ : ∃ a1, (opnK n S L k).1 = a1 := ⟨_, rfl⟩
      obtain ⟨a2, ha2⟩ : ∃ a2, (opnK n S L k).2 = a2 := ⟨_, rfl⟩
      rw [ha1, ha2] at HI
      rw [show opnK n S L k = (a1, a2) by rw [← ha1, ← ha2]] at hK
      unfold opnF at hK
      clear ha1 ha2
      cases hs : supC c
      · have HSN := hide hs
        rw [hs] at hK
        have HK := hide (show opnK n S L (k + 1) = (a1, a2) by rw [hK]; rfl)
        clear hK hs
        go_wp2_with (first | (go_at_call 26; (refine (super_no HF5.out HSN.out).mono ?_); rintro e w6 ⟨rfl, hb⟩; have HB6 := hide (HB5.out.trans (hb.mono HB5.out.size)); have HQ6 := hide (HQ5.out.below hb HQ5.out.lt); have HS6 := hide (HS5.out.below hb HS5.out.lt); clear hb) | (go_at_call 25; (refine (sec_read0 (H.out.below HI.out.1) (k : Int) (by omega)).mono ?_); rintro e w5 ⟨⟨v5, rfl, hf⟩, hb⟩; rw [HCC.out] at hf; have HF5 := hide hf; have HB5 := hide (HI.out.1.trans (hb.mono HI.out.1.size)); have HQ5 := hide (show Blk w5 pb TP (pk db sb n a1 a2 0 false) from HI.out.2.1.below hb HI.out.2.1.lt); have HS5 := hide (HI.out.2.2.below hb HI.out.2.2.lt); clear hf hb))
        go_roundw
        case rel => exact ⟨k + 1, by omega, by go_num, hide ⟨HB6.out, by rw [HK.out]; exact HQ6.out, HS6.out⟩⟩
        case measure => simp [intOf]; omega
      · have HSY := hide hs
        obtain ⟨s, hss⟩ : ∃ s, supS c = s := ⟨_, rfl⟩
        obtain ⟨r, hr⟩ : ∃ r, supR c = r := ⟨_, rfl⟩
        rw [hs, hss, hr] at hK
        have HSS := hide hss
        have HRR := hide hr
        clear hs hss hr
        cases d2 : decide (a1 < (s : Int))
        · rw [d2] at hK
          have HK := hide (show opnK n S L (k + 1) = (a1, a2) by rw [hK]; rfl)
          clear hK
          go_wp2_with (first | (go_at_call 26; (refine (super_yes HF5.out HSY.out).mono ?_); rintro e w6 ⟨rfl, hb⟩; rw [HSS.out, HRR.out]; have HB6 := hide (HB5.out.trans (hb.mono HB5.out.size)); have HQ6 := hide (HQ5.out.below hb HQ5.out.lt); have HS6 := hide (HS5.out.below hb HS5.out.lt); have kq := HQ6.out.cell; have qq := HQ6.out.frozen; have zq := HQ6.out.lt; unfold pk at kq; clear hb) | (go_at_call 25; (refine (sec_read0 (H.out.below HI.out.1) (k : Int) (by omega)).mono ?_); rintro e w5 ⟨⟨v5, rfl, hf⟩, hb⟩; rw [HCC.out] at hf; have HF5 := hide hf; have HB5 := hide (HI.out.1.trans (hb.mono HI.out.1.size)); have HQ5 := hide (show Blk w5 pb TP (pk db sb n a1 a2 0 false) from HI.out.2.1.below hb HI.out.2.1.lt); have HS5 := hide (HI.out.2.2.below hb HI.out.2.2.lt); clear hf hb))
          go_roundw
          case rel => exact ⟨k + 1, by omega, by go_num, hide ⟨HB6.out, by rw [HK.out]; exact HQ6.out, HS6.out⟩⟩
          case measure => simp [intOf]; omega
        · cases d3 : ((r : Int) == 0)
          · cases d4 : pgB n (r : Int)
            · rw [d2, d3, d4] at hK
              have HK := hide (show opnK n S L (k + 1) = (a1, a2) by rw [hK]; rfl)
              clear hK
              go_wp2_with (first | (go_at_call 27; (refine (page_any pb db sb n a1 a2 0 false (r : Int) w6 HQ6.out).mono ?_); rintro e w7 ⟨rfl, hb⟩; rw [d4]; have HB7 := hide (HB6.out.trans (hb.mono HB6.out.size)); have HQ7 := hide (HQ6.out.below hb HQ6.out.lt); have HS7 := hide (HS6.out.below hb HS6.out.lt); have kr := HQ7.out.cell; have qr := HQ7.out.frozen; have zr := HQ7.out.lt; unfold pk at kr; clear hb kq qq zq) | (go_at_call 26; (refine (super_yes HF5.out HSY.out).mono ?_); rintro e w6 ⟨rfl, hb⟩; rw [HSS.out, HRR.out]; have HB6 := hide (HB5.out.trans (hb.mono HB5.out.size)); have HQ6 := hide (HQ5.out.below hb HQ5.out.lt); have HS6 := hide (HS5.out.below hb HS5.out.lt); have kq := HQ6.out.cell; have qq := HQ6.out.frozen; have zq := HQ6.out.lt; unfold pk at kq; clear hb) | (go_at_call 25; (refine (sec_read0 (H.out.below HI.out.1) (k : Int) (by omega)).mono ?_); rintro e w5 ⟨⟨v5, rfl, hf⟩, hb⟩; rw [HCC.out] at hf; have HF5 := hide hf; have HB5 := hide (HI.out.1.trans (hb.mono HI.out.1.size)); have HQ5 := hide (show Blk w5 pb TP (pk db sb n a1 a2 0 false) from HI.out.2.1.below hb HI.out.2.1.lt); have HS5 := hide (HI.out.2.2.below hb HI.out.2.2.lt); clear hf hb))
              go_roundw
              case rel => exact ⟨k + 1, by omega, by go_num, hide ⟨HB7.out, by rw [HK.out]; exact HQ7.out, HS7.out⟩⟩
              case measure => simp [intOf]; omega
            · rw [d2, d3, d4] at hK
              have HK := hide (show opnK n S L (k + 1) = ((s : Int), (r : Int)) by rw [hK]; rfl)
              clear hK
              go_wp2_with (first | (go_at_call 27; (refine (page_any pb db sb n a1 a2 0 false (r : Int) w6 HQ6.out).mono ?_); rintro e w7 ⟨rfl, hb⟩; rw [d4]; have HB7 := hide (HB6.out.trans (hb.mono HB6.out.size)); have HQ7 := hide (HQ6.out.below hb HQ6.out.lt); have HS7 := hide (HS6.out.below hb HS6.out.lt); have kr := HQ7.out.cell; have qr := HQ7.out.frozen; have zr := HQ7.out.lt; unfold pk at kr; clear hb kq qq zq) | (go_at_call 26; (refine (super_yes HF5.out HSY.out).mono ?_); rintro e w6 ⟨rfl, hb⟩; rw [HSS.out, HRR.out]; have HB6 := hide (HB5.out.trans (hb.mono HB5.out.size)); have HQ6 := hide (HQ5.out.below hb HQ5.out.lt); have HS6 := hide (HS5.out.below hb HS5.out.lt); have kq := HQ6.out.cell; have qq := HQ6.out.frozen; have zq := HQ6.out.lt; unfold pk at kq; clear hb) | (go_at_call 25; (refine (sec_read0 (H.out.below HI.out.1) (k : Int) (by omega)).mono ?_); rintro e w5 ⟨⟨v5, rfl, hf⟩, hb⟩; rw [HCC.out] at hf; have HF5 := hide hf; have HB5 := hide (HI.out.1.trans (hb.mono HI.out.1.size)); have HQ5 := hide (show Blk w5 pb TP (pk db sb n a1 a2 0 false) from HI.out.2.1.below hb HI.out.2.1.lt); have HS5 := hide (HI.out.2.2.below hb HI.out.2.2.lt); clear hf hb))
              go_roundw
              case rel => exact ⟨k + 1, by omega, by go_num, hide ⟨(HB7.out.setCell (p := ⟨pb, 2, none⟩) HPB.out _).setCell (p := ⟨pb, 3, none⟩) HPB.out _, by rw [HK.out]; exact (HQ7.out.set_ 2 _).set_ 3 _, (HS7.out.far (p := ⟨pb, 2, none⟩) HNE.out _).far (p := ⟨pb, 3, none⟩) HNE.out _⟩⟩
              case measure => simp [intOf]; omega
          · rw [d2, d3] at hK
            have HK := hide (show opnK n S L (k + 1) = ((s : Int), (r : Int)) by rw [hK]; rfl)
            clear hK
            go_wp2_with (first | (go_at_call 26; (refine (super_yes HF5.out HSY.out).mono ?_); rintro e w6 ⟨rfl, hb⟩; rw [HSS.out, HRR.out]; have HB6 := hide (HB5.out.trans (hb.mono HB5.out.size)); have HQ6 := hide (HQ5.out.below hb HQ5.out.lt); have HS6 := hide (HS5.out.below hb HS5.out.lt); have kq := HQ6.out.cell; have qq := HQ6.out.frozen; have zq := HQ6.out.lt; unfold pk at kq; clear hb) | (go_at_call 25; (refine (sec_read0 (H.out.below HI.out.1) (k : Int) (by omega)).mono ?_); rintro e w5 ⟨⟨v5, rfl, hf⟩, hb⟩; rw [HCC.out] at hf; have HF5 := hide hf; have HB5 := hide (HI.out.1.trans (hb.mono HI.out.1.size)); have HQ5 := hide (show Blk w5 pb TP (pk db sb n a1 a2 0 false) from HI.out.2.1.below hb HI.out.2.1.lt); have HS5 := hide (HI.out.2.2.below hb HI.out.2.2.lt); clear hf hb))
            go_roundw
            case rel => exact ⟨k + 1, by omega, by go_num, hide ⟨(HB6.out.setCell (p := ⟨pb, 2, none⟩) HPB.out _).setCell (p := ⟨pb, 3, none⟩) HPB.out _, by rw [HK.out]; exact (HQ6.out.set_ 2 _).set_ 3 _, (HS6.out.far (p := ⟨pb, 2, none⟩) HNE.out _).far (p := ⟨pb, 3, none⟩) HNE.out _⟩⟩
            case measure => simp [intOf]; omega
    · have e : k = 2 := by omega
      subst e
      go_wp2
      refine bodyPost_ret (v := .tuple #[.pointer (some ⟨pb, 0, none⟩), .int .i64 0]) (by simp [results, Try.results8, go_sem]) rfl ⟨pb, sb, rfl, HPB.out, HSB.out, HI.out.2.1, HI.out.2.2, HI.out.1⟩
end Go.Proofs.Ytddcmockdomonaa
