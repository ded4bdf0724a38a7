/- The document's UTF-8: a text. -/
import Derived.Test.YtmbjalcphdggnaaDoorJsPo
namespace Go.Proofs.YtmbjalcphdggnaaDoor
set_option linter.unusedSimpArgs false
set_option linter.unusedVariables false
open Go.RowKit
theorem valid_no {u : L8} (hu : u ≠ []) (h : chW u = 0) : Lib.validD u = false := by
  rw [Bool.eq_false_iff]
  intro hv
  exact (valid_ch hu hv).1 h
theorem valid_on {u : L8} (hu : u ≠ []) (h : chW u ≠ 0) : Lib.validD u = Lib.validD (u.drop (chW u)) := by
  rw [Bool.eq_iff_iff]
  exact ⟨fun hv => (valid_ch hu hv).2, valid_of_ch hu h⟩
set_option maxRecDepth 100000 in
set_option maxHeartbeats 600000 in
theorem utf8_any (w : World) (l : L8) (hn : l.length ≤ 2000) :
    Calls Tryd.prog 16 #[.string ⟨l.toArray⟩] w fun e w' => e = .returned (.bool (Lib.validD l)) ∧ Below w.heap.size w w' := by
  obtain ⟨w1, hw1⟩ : ∃ x, Lib.bytesWorld w T8 ⟨l.toArray⟩ = x := ⟨_, rfl⟩
  have hcx : (convert 9 22 (.string ⟨l.toArray⟩)).run Tryd.prog w = .ok (.slice (some ⟨w.heap.size, 0, none⟩) l.length (grownCap w l.length 0 T8)) w1 := hw1 ▸ conv_run l w
  have HR1 := hide (show RB w1 w1.heap.size (some ⟨w.heap.size, 0, none⟩) l.length l from hw1 ▸ conv_rb l w)
  have HK1 := hide (conv_cap l w)
  have HN1 := hide (show Below w.heap.size w w1 from hw1 ▸ conv_below l w)
  clear hw1
  obtain ⟨n, hnn⟩ : ∃ n, l.length = n := ⟨_, rfl⟩
  rw [hnn] at hcx HR1 HK1 hn
  have HNN := hide hnn
  clear hnn
  go_enter Tryd.func16, Tryd.ntmps16
  go_wp2_with fail
  clear hcx
  go_loopw [4] (fun iv wr => ∃ i : Nat, iv = .int .i64 (i : Int) ∧ i ≤ n ∧ wr = w1 ∧ Hid (Lib.validD l = Lib.validD (l.drop i))) (fun iv _ => n - (intOf iv).toNat)
  case atStart => exact ⟨0, by go_num, by omega, rfl, hide (by rw [List.drop_zero])⟩
  case round =>
    obtain ⟨i, rfl, hi, rfl, HV⟩ := hrel
    by_cases hlt : i < n
    · have hne : l.drop i ≠ [] := fun e => by have := congrArg List.length e; rw [List.length_drop, HNN.out] at this; simp at this; omega
      obtain ⟨m, hm⟩ : ∃ m, chW (l.drop i) = m := ⟨_, rfl⟩
      have hle : i + m ≤ n := by have := chW_le hne; rw [List.length_drop, HNN.out] at this; omega
      have HM := hide hm
      have HNE := hide hne
      clear hne hm
      by_cases hm0 : m = 0
      · have e0 : ((m : Int) == 0) = true := by simp; omega
        have HF := hide (show Lib.validD l = false from by rw [HV.out]; exact valid_no HNE.out (HM.out.trans hm0))
        clear hm0
        go_wp2_with (go_at_call 27; (refine (char_any wr _ n _ l i HR1.out HK1.out hn hlt).mono ?_); (rw [HM.out]); rintro e w2 ⟨rfl, rfl⟩)
        go_ret
        exact ⟨by rw [HF.out]; rfl, HN1.out⟩
      · have e0 : ((m : Int) == 0) = false := by simp; omega
        have HF := hide (show Lib.validD l = Lib.validD (l.drop (i + m)) from by rw [HV.out, valid_on HNE.out (by rw [HM.out]; exact hm0), HM.out, List.drop_drop])
        go_wp2_with (go_at_call 27; (refine (char_any wr _ n _ l i HR1.out HK1.out hn hlt).mono ?_); (rw [HM.out]); rintro e w2 ⟨rfl, rfl⟩)
        go_roundw
        case rel => exact ⟨i + m, by go_num, by omega, by trivial, HF⟩
        case measure => simp [intOf]; omega
    · have HF := hide (show Lib.validD l = true from by rw [HV.out, List.drop_of_length_le (by have := HNN.out; omega)]; rfl)
      go_wp2_with fail
      go_ret
      exact ⟨by rw [HF.out]; rfl, HN1.out⟩
end Go.Proofs.YtmbjalcphdggnaaDoor
