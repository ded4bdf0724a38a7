/- The sectors: what a program that does nothing does not answer. -/
import Derived.Test.YthlgkhnkcjihiaaSecK
namespace Go.Proofs.Ythlgkhnkcjihiaa
set_option linter.unusedSimpArgs false
set_option linter.unusedVariables false
open Go.RowKit
theorem fil_data {w : World} {g : Nat} {c : Int} (h : Blk w g T8 (fillA c 512 512)) (hc : 0 ≤ c ∧ c < 256) : Fil w (fun j => j = g) (.slice (some ⟨g, 0, none⟩) 512 512) c :=
  ⟨hc, g, 512, _, rfl, rfl, h, fun j hj => by rw [fillA_at c hj, if_pos hj]⟩
theorem fil_dataN {w : World} {g : Nat} {c : Int} {odd : Bool} (h : Blk w g T8 (fillA c (dataN c odd) (dataN c odd))) (hc : 0 ≤ c ∧ c < 256) : dataN c odd = 512 → Fil w (fun j => j = g) (.slice (some ⟨g, 0, none⟩) 512 (dataN c odd)) c := fun e => by
  rw [e] at h ⊢; exact fil_data h hc
theorem sec_read {w : World} {F : Nat → Prop} {b : Nat} {out : Bool} {left size : Int} {S : Int → Int} {L : List (Int × Int)} {N : Nat} (h : Sec w F b out left size S L N) (at_ : Int) :
    Calls Try.prog 12 #[.pointer (some ⟨b, 0, none⟩), .int .i64 at_] w fun e w' => ∃ v, e = .returned (.tuple #[v, .int .i64 (faultE out size at_)]) ∧
      (faultE out size at_ = 0 → Fil w' (fun j => w.heap.size ≤ j) v (nowC S L at_)) ∧ (faultE out size at_ ≠ 0 → v = .slice none 0 0) ∧ Below w.heap.size w w' := by
  obtain ⟨m, u, n, D, us, h⟩ := h
  by_cases ha : faultE out size at_ = 0
  · refine (sec_read_ok h at_ ha).mono ?_
    rintro e w' ⟨⟨v, rfl, hf⟩, hb⟩
    exact ⟨v, by rw [ha], fun _ => hf, fun hn => absurd ha hn, hb⟩
  · refine (sec_read_fault h at_ ha).mono ?_
    rintro e w' ⟨rfl, hb⟩
    exact ⟨_, rfl, fun hn => absurd hn ha, fun _ => rfl, hb⟩
set_option maxRecDepth 100000 in
set_option maxHeartbeats 1000000 in
theorem answers_any (w : World) : Calls Try.prog 9 #[] w fun e w' => e = .returned (.bool true) ∧ Below w.heap.size w w' := by
  go_enter Try.func9, Try.ntmps9
  go_wp2_with (first | (go_at_call 14; (refine (sec_new 2 w (by omega)).mono ?_); rintro e w1 ⟨rfl, h1, hb1⟩; have H1 := hide h1; have HB1 := hide hb1; clear h1 hb1) | (go_at_call 17; (refine (data_any 7 false w1 (by omega)).mono ?_); rintro e w2 ⟨rfl, h2, hb2⟩; have HF2 := hide (fil_dataN h2 (by omega)); have H2 := hide (H1.out.below hb2); have HB2 := hide (HB1.out.trans (hb2.mono HB1.out.size)); clear h2 hb2) | (go_at_call 16; (refine (sec_write H2.out 1 7 _ (dataN 7 false) (dataN 7 false) _ HF2.out (by omega)).mono ?_); rintro e w3 ⟨rfl, ⟨F3, h3, hF3⟩, hf3⟩; have H3 := hide h3; have HB3 := hide (HB2.out.trans (hf3.below HB2.out.size (fun j hj => hj.1))); clear h3 hf3; rw [show wrE false 0 2 1 (dataN 7 false) = 0 from rfl]) | (go_at_call 12; (refine (sec_read H3.out 1).mono ?_); rintro e w4 ⟨v, rfl, h4, _, hb4⟩; have HB4 := hide (HB3.out.trans (hb4.mono HB3.out.size)); obtain ⟨_, g4, cap4, cs4, rfl, _, k4, hc4⟩ := h4 (by rfl); have kx := (k4.cell 9).trans (hc4 9 (by omega)); clear h4 hb4 hc4; rw [show faultE (wrOut false 0 2 1 (dataN 7 false)) 2 1 = 0 from rfl]; rw [show nowC (fun _ => 0) (wrL false 0 2 1 7 (dataN 7 false) []) 1 = 7 from rfl] at kx; have z4 := k4.lt))
  go_ret
  exact ⟨rfl, HB4.out⟩
end Go.Proofs.Ythlgkhnkcjihiaa
