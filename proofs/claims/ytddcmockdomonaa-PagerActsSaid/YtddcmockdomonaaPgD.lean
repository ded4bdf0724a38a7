/- slices.Clone at bytes. -/
import Derived.Test.YtddcmockdomonaaPgB
import Derived.Outline
import Derived.Lib.BufferMore
namespace Go.Proofs.Ytddcmockdomonaa
set_option linter.unusedSimpArgs false
set_option linter.unusedVariables false
open Go.RowKit
theorem Reads.al {w : World} {size n : Nat} {A : Option Addr} {xs : List Value} {B : Nat} (hB : B ≤ w.heap.size) (h : Reads w B size A n xs) (o : Obj) : Reads (w.alloc o) B size A n xs := by
  refine ⟨h.1, fun hn => ?_⟩
  obtain ⟨ad, e, hb, hc⟩ := h.2 hn
  refine ⟨ad, e, hb, fun j u hj => ?_⟩
  rw [((Below.refl B w).alloc hB o).cell (by unfold Addr.add; split <;> exact hb)]
  exact hc j u hj
set_option maxHeartbeats 1000000 in
theorem clone_any (A : Addr) (n c : Nat) (xs : List Value) (w : World) (hr : Reads w w.heap.size 1 (some A) n xs) (h1 : ∀ u ∈ xs, u.oneCell' = true) (hn : n ≤ 600) :
    Calls Try.prog 42 #[.slice (some A) n c] w fun e w' => ∃ v, e = .returned v ∧ w'.ownsRow w.heap.size 5 1 v n xs ∧ Below w.heap.size w w' := by
  obtain ⟨i0, hi0, hz0, hz1, hz2⟩ := info_parts u8_info
  have HR := hide hr
  have H1 := hide h1
  clear hr h1
  have heq := fun w => Go.Lib.run_eql_slice_some_nil (P := Try.prog) w A n c Try.underlying33
  go_enter Try.func42, Try.ntmps42
  go_wp2_with (at_builtin; (refine wpList_append_any _ rfl (.tmp 5) (.tmp 6) _ rfl w.heap.size 5 i0 _ 1 1 Try.underlying33 hi0 hz0 hz1 hz2 rfl (by omega) _ 0 [] rfl (World.ownsRow_lit w #[] 0 (Nat.le_refl _) (by unfold maxLen; omega) rfl) w.heap.size (some A) n c xs rfl (Reads.al (Nat.le_refl _) HR.out _) H1.out (by unfold maxLen; omega) (by omega) (by simp) ?_); intro v' w2 ho hg _)
  simp only [List.nil_append, Nat.zero_add] at ho
  have HO := hide ho
  have HG := hide hg
  clear ho hg
  go_wp2_with fail
  go_ret
  exact ⟨_, rfl, HO.out, ((Below.refl _ _).alloc (Nat.le_refl _) _).trans ⟨HG.out.os, HG.out.tape, HG.out.output, HG.out.size, fun j hj => HG.out.block j (by simp; omega) (by intro e; have e2 : some j = some w.heap.size := e; cases e2; omega)⟩⟩
end Go.Proofs.Ytddcmockdomonaa
