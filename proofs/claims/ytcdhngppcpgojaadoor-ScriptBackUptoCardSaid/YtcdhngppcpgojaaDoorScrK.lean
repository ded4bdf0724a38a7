/- An act that has no line; the document's words. -/
import Derived.Test.YtcdhngppcpgojaaDoorScrJ
namespace Go.Proofs.YtcdhngppcpgojaaDoor
set_option linter.unusedSimpArgs false
set_option linter.unusedVariables false
open Go.RowKit
theorem not_good {r : Ac} (h : ¬ r.good) : (r.kind < 1) ∨ (1 ≤ r.kind ∧ 15 ≤ r.kind) ∨ (1 ≤ r.kind ∧ r.kind < 15 ∧ 128 < r.p) ∨ (1 ≤ r.kind ∧ r.kind < 15 ∧ r.p ≤ 128 ∧ 32 < r.owner.length) := by
  unfold Ac.good at h
  omega
set_option maxRecDepth 100000 in
set_option maxHeartbeats 2000000 in
theorem act_bad (r : Ac) (w : World) (hgd : ¬ r.good) (hp : r.p ≤ 140737488351232) (ho : r.owner.length ≤ 140737488355328) :
    Calls Tryd.prog 15 #[.agg r.cells] w fun e w' => e = .returned (.tuple #[str [], .int .i64 2]) ∧ Below w.heap.size w w' := by
  have hg := not_good hgd
  clear hgd
  obtain ⟨kind, s, n, mask, okind, a, b, A, p, c, path, owner, text⟩ := r
  unfold Ac.cells
  simp only at hg hp ho ⊢
  rcases hg with g | ⟨g1, g2⟩ | ⟨g1, g2, g3⟩ | ⟨g1, g2, g3, g4⟩
  · go_enter Tryd.func15, Tryd.ntmps15
    go_wp2_with fail
    refine bodyPost_ret (v := .tuple #[str [], .int .i64 2]) (by simp [results, Tryd.results15, go_sem]) rfl ⟨rfl, (Below.refl _ _).alloc (Nat.le_refl _) _⟩
  · go_enter Tryd.func15, Tryd.ntmps15
    go_wp2_with fail
    refine bodyPost_ret (v := .tuple #[str [], .int .i64 2]) (by simp [results, Tryd.results15, go_sem]) rfl ⟨rfl, (Below.refl _ _).alloc (Nat.le_refl _) _⟩
  · have g3' : (128 : Int) < p := by omega
    go_enter Tryd.func15, Tryd.ntmps15
    go_wp2_with fail
    refine bodyPost_ret (v := .tuple #[str [], .int .i64 2]) (by simp [results, Tryd.results15, go_sem]) rfl ⟨rfl, (Below.refl _ _).alloc (Nat.le_refl _) _⟩
  · have g3' : ¬ (128 : Int) < p := by omega
    have g4' : (32 : Int) < owner.length := by omega
    go_enter Tryd.func15, Tryd.ntmps15
    go_wp2_with fail
    refine bodyPost_ret (v := .tuple #[str [], .int .i64 2]) (by simp [results, Tryd.results15, go_sem]) rfl ⟨rfl, (Below.refl _ _).alloc (Nat.le_refl _) _⟩
def wordOf (k : Int) : List UInt8 := if 1 ≤ k ∧ k ≤ 14 then kw k.toNat else []
set_option maxRecDepth 100000 in
set_option maxHeartbeats 2000000 in
theorem word_any (k : Int) (w : World) : Calls Tryd.prog 31 #[.int .i64 k] w fun e w' => e = .returned (str (wordOf k)) ∧ Below w.heap.size w w' := by
  unfold wordOf
  by_cases h1 : k < 1
  · rw [if_neg (by omega)]
    go_enter Tryd.func31, Tryd.ntmps31
    go_wp2_with fail
    go_ret
    exact ⟨rfl, (Below.refl _ _).alloc (Nat.le_refl _) _⟩
  · by_cases h2 : 14 < k
    · rw [if_neg (by omega)]
      go_enter Tryd.func31, Tryd.ntmps31
      go_wp2_with fail
      go_ret
      exact ⟨rfl, (Below.refl _ _).alloc (Nat.le_refl _) _⟩
    · rw [if_pos (by omega)]
      obtain ⟨n, rfl⟩ : ∃ n : Nat, k = (n : Int) := ⟨k.toNat, by omega⟩
      rw [Int.toNat_natCast]
      have hn : n < 15 := by omega
      have hc : (kws.map str)[n]? = some (str (kw n)) := by
        unfold kw
        rw [List.getElem?_map, List.getD_eq_getElem?_getD, List.getElem?_eq_getElem (show n < kws.length from hn)]
        rfl
      have HC := hide hc
      clear hc
      go_enter Tryd.func31, Tryd.ntmps31
      go_wp2_with fail
      go_ret
      exact ⟨congrArg Ending.returned (List.getElem?_eq_some_iff.1 HC.out).2, (Below.refl _ _).alloc (Nat.le_refl _) _⟩
end Go.Proofs.YtcdhngppcpgojaaDoor
