/- The law on numbers, walked. -/
import Derived.Test.YtmbjalcphdggnaaDoorJsR
namespace Go.Proofs.YtmbjalcphdggnaaDoor
set_option linter.unusedSimpArgs false
set_option linter.unusedVariables false
open Go.RowKit
set_option maxRecDepth 100000 in
set_option maxHeartbeats 4000000 in
theorem numbers_any (w : World) (l : L8) (hT : Tabs w) : Calls Tryd.prog 4 #[.string ⟨l.toArray⟩] w fun e w' => e = .returned (.bool true) ∧ Below w.heap.size w w' := by
  have HT := hide hT
  clear hT
  by_cases hlg : 2000 < l.length
  · have d1 : decide ((2000 : Int) < (l.length : Int)) = true := by simp; omega
    go_enter Tryd.func4, Tryd.ntmps4
    go_wp2_with (first | (go_at_call 9; (refine (answers_any w1 (HT.out.below HB1.out)).mono ?_); rintro e w2 ⟨rfl, hb⟩; have HB2 := hide (HB1.out.trans (hb.mono HB1.out.size)); clear hb) | (go_at_call 9; (refine (answers_any w HT.out).mono ?_); rintro e w1 ⟨rfl, hb⟩; have HB1 := hide hb; clear hb))
    go_ret
    exact ⟨rfl, HB2.out⟩
  · have d1 : decide ((2000 : Int) < (l.length : Int)) = false := by simp; omega
    go_enter Tryd.func4, Tryd.ntmps4
    go_wp2_with (go_at_call 9; (refine (answers_any w HT.out).mono ?_); rintro e w1 ⟨rfl, hb⟩; have HB1 := hide hb; clear hb)
    go_loopw [3] (fun iv wr => ∃ j : Nat, iv = .int .i64 (j : Int) ∧ Hid (Below w.heap.size w wr) ∧ j ≤ l.length ∧ Hid (∀ c ∈ l.take j, isN c = true)) (fun iv _ => l.length - (intOf iv).toNat)
    case atStart => exact ⟨0, by go_num, HB1, by omega, hide (by simp)⟩
    case round =>
      clear HB1
      obtain ⟨j, rfl, HB, hj, HN⟩ := hrel
      by_cases hlt : j < l.length
      · obtain ⟨x, hx⟩ : ∃ x, l[j] = x := ⟨_, rfl⟩
        have hxs : (⟨l.toArray⟩ : ByteArray)[j]'(by show j < l.toArray.size; simpa using hlt) = x := hx
        have HNX := hide (show isN x = true → ∀ c ∈ l.take (j + 1), isN c = true from fun hn c hc => by
          rw [List.take_succ_eq_append_getElem hlt, List.mem_append] at hc
          rcases hc with hc | hc
          · exact HN.out c hc
          · rw [hx] at hc; simp at hc; rw [hc]; exact hn)
        clear hx
        go_upto_region 7 with fail
        clear hxs
        by_cases hdg : 48 ≤ x.toNat ∧ x.toNat ≤ 57
        · have e1 : decide ((x.toNat : Int) < 48) = false := by simp; omega
          have e2 : decide ((57 : Int) < (x.toNat : Int)) = false := by simp; omega
          have hn := HNX.out (by unfold isN isDg; simp; exact .inl hdg)
          clear hdg HNX
          go_wp2_with fail
          go_roundw
          case rel => exact ⟨j + 1, by go_num, HB, by omega, hide hn⟩
          case measure => simp [intOf]; omega
        · by_cases h1 : x.toNat = 43
          · have hn := HNX.out (show isN x = true by rw [show x = 43 by rw [← byte_back x]; simp_all]; rfl)
            have e0 : (x.toNat : Int) = 43 := by omega
            have e1 : decide ((x.toNat : Int) < 48) = true := by rw [e0]; rfl
            have e2 : decide ((57 : Int) < (x.toNat : Int)) = false := by rw [e0]; rfl
            clear hdg HNX
            go_wp2_with fail
            go_roundw
            case rel => exact ⟨j + 1, by go_num, HB, by omega, hide hn⟩
            case measure => simp [intOf]; omega
          · by_cases h2 : x.toNat = 45
            · have hn := HNX.out (show isN x = true by rw [show x = 45 by rw [← byte_back x]; simp_all]; rfl)
              have e0 : (x.toNat : Int) = 45 := by omega
              have e1 : decide ((x.toNat : Int) < 48) = true := by rw [e0]; rfl
              have e2 : decide ((57 : Int) < (x.toNat : Int)) = false := by rw [e0]; rfl
              clear hdg HNX
              go_wp2_with fail
              go_roundw
              case rel => exact ⟨j + 1, by go_num, HB, by omega, hide hn⟩
              case measure => simp [intOf]; omega
            · by_cases h3 : x.toNat = 46
              · have hn := HNX.out (show isN x = true by rw [show x = 46 by rw [← byte_back x]; simp_all]; rfl)
                have e0 : (x.toNat : Int) = 46 := by omega
                have e1 : decide ((x.toNat : Int) < 48) = true := by rw [e0]; rfl
                have e2 : decide ((57 : Int) < (x.toNat : Int)) = false := by rw [e0]; rfl
                clear hdg HNX
                go_wp2_with fail
                go_roundw
                case rel => exact ⟨j + 1, by go_num, HB, by omega, hide hn⟩
                case measure => simp [intOf]; omega
              · by_cases h4 : x.toNat = 101
                · have hn := HNX.out (show isN x = true by rw [show x = 101 by rw [← byte_back x]; simp_all]; rfl)
                  have e0 : (x.toNat : Int) = 101 := by omega
                  have e1 : decide ((x.toNat : Int) < 48) = false := by rw [e0]; rfl
                  have e2 : decide ((57 : Int) < (x.toNat : Int)) = true := by rw [e0]; rfl
                  clear hdg HNX
                  go_wp2_with fail
                  go_roundw
                  case rel => exact ⟨j + 1, by go_num, HB, by omega, hide hn⟩
                  case measure => simp [intOf]; omega
                · by_cases h5 : x.toNat = 69
                  · have hn := HNX.out (show isN x = true by rw [show x = 69 by rw [← byte_back x]; simp_all]; rfl)
                    have e0 : (x.toNat : Int) = 69 := by omega
                    have e1 : decide ((x.toNat : Int) < 48) = false := by rw [e0]; rfl
                    have e2 : decide ((57 : Int) < (x.toNat : Int)) = true := by rw [e0]; rfl
                    clear hdg HNX
                    go_wp2_with fail
                    go_roundw
                    case rel => exact ⟨j + 1, by go_num, HB, by omega, hide hn⟩
                    case measure => simp [intOf]; omega
                  · have e1 : ((x.toNat : Int) != 43) = true := by simp; omega
                    have e2 : ((x.toNat : Int) != 45) = true := by simp; omega
                    have e3 : ((x.toNat : Int) != 46) = true := by simp; omega
                    have e4 : ((x.toNat : Int) != 101) = true := by simp; omega
                    have e5 : ((x.toNat : Int) != 69) = true := by simp; omega
                    by_cases h6 : x.toNat < 48
                    · have e6 : decide ((x.toNat : Int) < 48) = true := by simp; omega
                      go_wp2_with fail
                      go_ret
                      exact ⟨rfl, HB.out⟩
                    · have e6 : decide ((x.toNat : Int) < 48) = false := by simp; omega
                      have e7 : decide ((57 : Int) < (x.toNat : Int)) = true := by simp; omega
                      go_wp2_with fail
                      go_ret
                      exact ⟨rfl, HB.out⟩
      · have HAll := hide (show ∀ c ∈ l, isN c = true from fun c hc => HN.out c (by rw [List.take_of_length_le (by omega)]; exact hc))
        have HPN := hide (parse_num l (by omega) HAll.out)
        have hcv := conv_run l
        have HTr := hide (HT.out.below HB.out)
        clear HN
        cases hnr : numR l
        · have HP := hide (show parseS l = .bad l 11 by rw [HPN.out, hnr]; rfl)
          go_upto_region 10 with (go_at_call 10; (refine (parse_to (conv_rb l wr) (conv_cap l wr) (HTr.out.below (conv_below l wr)) (conv_lt l wr)).mono ?_); rintro e w6 ⟨hb, hr⟩; (rcases hr with ⟨J, cs, hp, _⟩ | ⟨p, e0, hp, _, rfl⟩); (rw [HP.out] at hp; cases hp); (rw [HP.out] at hp); (injection hp with hp1 hp2); subst hp1; subst hp2; unfold zTV; have HB6 := hide (HB.out.trans ((conv_below l wr).mono HB.out.size |>.trans (hb.mono (Nat.le_trans HB.out.size (conv_below l wr).size)))); clear hb)
          obtain ⟨w7, hw7⟩ : ∃ w7, w6.alloc (.cells #[.int .i64 0, .string ⟨#[]⟩, .slice none 0 0, .slice none 0 0] TV) = w7 := ⟨_, rfl⟩
          have HV7 := hide (show Blk w7 w6.heap.size TV #[.int .i64 0, .string ⟨#[]⟩, .slice none 0 0, .slice none 0 0] from hw7 ▸ Blk.new _ _ _)
          have HB7 := hide (show Below w.heap.size w w7 from hw7 ▸ bal HB6.out _)
          rw [hw7]
          clear hw7
          obtain ⟨w8, hw8⟩ : ∃ w8, Lib.bytesWorld w7 T8 ⟨l.toArray⟩ = w8 := ⟨_, rfl⟩
          have HR8 := hide (show RB w8 w8.heap.size (some ⟨w7.heap.size, 0, none⟩) l.length l from hw8 ▸ conv_rb l w7)
          have HB8 := hide (show Below w.heap.size w w8 from hw8 ▸ HB7.out.trans ((conv_below l w7).mono HB7.out.size))
          have HV8 := hide (show Blk w8 w6.heap.size TV #[.int .i64 0, .string ⟨#[]⟩, .slice none 0 0, .slice none 0 0] from hw8 ▸ HV7.out.below (conv_below l w7) HV7.out.lt)
          have HC8 := hide (conv_cap l w7)
          have hcv7 : (convert 9 22 (.string ⟨l.toArray⟩)).run Tryd.prog w7 = .ok (.slice (some ⟨w7.heap.size, 0, none⟩) l.length (grownCap w7 l.length 0 T8)) w8 := hw8 ▸ conv_run l w7
          have HNR := hide hnr
          clear hw8 hcv hnr
          have kv8 := HV8.out.cell; have fv8 := HV8.out.frozen; have zv8 := HV8.out.lt
          go_wp2_with (go_at_call 12; (refine (rnumber_any HR8.out HC8.out (by omega)).mono ?_); rw [HNR.out]; rintro e w9 ⟨rfl, hw⟩; (obtain rfl : w8 = w9 := hw.symm))
          go_ret
          exact ⟨rfl, HB8.out⟩
        · have HP := hide (show parseS l = .ok (.mk 4 l [] []) by rw [HPN.out, hnr]; rfl)
          go_upto_region 10 with (go_at_call 10; (refine (parse_to (conv_rb l wr) (conv_cap l wr) (HTr.out.below (conv_below l wr)) (conv_lt l wr)).mono ?_); rintro e w6 ⟨hb, hr⟩; (rcases hr with ⟨J, cs, hp, rfl, hv⟩ | ⟨p, e0, hp, _⟩); rotate_left; (rw [HP.out] at hp; cases hp); (rw [HP.out] at hp); (injection hp with hp); subst hp; (obtain ⟨A1, c1, A2, c2, xs, rfl, _⟩ := hv.mk'); clear hv; have HB6 := hide (HB.out.trans ((conv_below l wr).mono HB.out.size |>.trans (hb.mono (Nat.le_trans HB.out.size (conv_below l wr).size)))); clear hb)
          obtain ⟨w7, hw7⟩ : ∃ w7, w6.alloc (.cells #[.int .i64 4, .string ⟨l.toArray⟩, .slice A1 0 c1, .slice A2 0 c2] TV) = w7 := ⟨_, rfl⟩
          have HV7 := hide (show Blk w7 w6.heap.size TV #[.int .i64 4, .string ⟨l.toArray⟩, .slice A1 0 c1, .slice A2 0 c2] from hw7 ▸ Blk.new _ _ _)
          have HB7 := hide (show Below w.heap.size w w7 from hw7 ▸ bal HB6.out _)
          rw [hw7]
          clear hw7
          obtain ⟨w8, hw8⟩ : ∃ w8, Lib.bytesWorld w7 T8 ⟨l.toArray⟩ = w8 := ⟨_, rfl⟩
          have HR8 := hide (show RB w8 w8.heap.size (some ⟨w7.heap.size, 0, none⟩) l.length l from hw8 ▸ conv_rb l w7)
          have HB8 := hide (show Below w.heap.size w w8 from hw8 ▸ HB7.out.trans ((conv_below l w7).mono HB7.out.size))
          have HV8 := hide (show Blk w8 w6.heap.size TV #[.int .i64 4, .string ⟨l.toArray⟩, .slice A1 0 c1, .slice A2 0 c2] from hw8 ▸ HV7.out.below (conv_below l w7) HV7.out.lt)
          have HC8 := hide (conv_cap l w7)
          have hcv7 : (convert 9 22 (.string ⟨l.toArray⟩)).run Tryd.prog w7 = .ok (.slice (some ⟨w7.heap.size, 0, none⟩) l.length (grownCap w7 l.length 0 T8)) w8 := hw8 ▸ conv_run l w7
          have HNR := hide hnr
          clear hw8 hcv hnr
          have kv8 := HV8.out.cell; have fv8 := HV8.out.frozen; have zv8 := HV8.out.lt
          go_wp2_with (go_at_call 12; (refine (rnumber_any HR8.out HC8.out (by omega)).mono ?_); rw [HNR.out]; rintro e w9 ⟨rfl, hw⟩; (obtain rfl : w8 = w9 := hw.symm))
          go_ret
          exact ⟨rfl, HB8.out⟩
end Go.Proofs.YtmbjalcphdggnaaDoor
