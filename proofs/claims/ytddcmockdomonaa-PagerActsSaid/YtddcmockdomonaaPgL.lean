/- The sectors: Read, whatever it answers. -/
import Derived.Test.YtddcmockdomonaaPgK
namespace Go.Proofs.Ytddcmockdomonaa
set_option linter.unusedSimpArgs false
set_option linter.unusedVariables false
open Go.RowKit
theorem sec_read {w : World} {F : Nat → Prop} {b : Nat} {out : Bool} {left size : Int} {S : Int → Cn} {L : List (Int × Cn)} {N : Nat} (h : Sec w F b out left size S L N) (at_ : Int) :
    Calls Try.prog 25 #[.pointer (some ⟨b, 0, none⟩), .int .i64 at_] w fun e w' => ∃ v, e = .returned (.tuple #[v, .int .i64 (faultE out size at_)]) ∧
      (faultE out size at_ = 0 → Fil w' (fun j => w.heap.size ≤ j) v (nowC S L at_)) ∧ (faultE out size at_ ≠ 0 → v = .slice none 0 0) ∧ Below w.heap.size w w' := by
  obtain ⟨m, u, n, D, us, h⟩ := h
  by_cases ha : faultE out size at_ = 0
  · refine (sec_read_ok h at_ ha).mono ?_
    rintro e w' ⟨⟨v, rfl, hf⟩, hb⟩
    exact ⟨v, by rw [ha], fun _ => hf, fun hn => absurd ha hn, hb⟩
  · refine (sec_read_fault h at_ ha).mono ?_
    rintro e w' ⟨rfl, hb⟩
    exact ⟨_, rfl, fun hn => absurd hn ha, fun _ => rfl, hb⟩
end Go.Proofs.Ytddcmockdomonaa
