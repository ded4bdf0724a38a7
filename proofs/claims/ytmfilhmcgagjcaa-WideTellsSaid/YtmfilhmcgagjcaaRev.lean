/- Bytes in a row of the call's own; slices.Reverse at them. -/
import Derived.Test.YtmfilhmcgagjcaaRegion
import Derived.BigRegion
import Derived.IntWalk
import Derived.Outline
import Derived.Laws.IdiomStrings
namespace Go.Proofs.Ytmfilhmcgagjcaa
set_option linter.unusedSimpArgs false
set_option linter.unusedVariables false
open Go.RowKit
/-- The cells of bytes. -/
def bc (l : List UInt8) : List Value := l.map fun b => Value.int .u8 (b.toNat : Int)
theorem bc_len (l : List UInt8) : (bc l).length = l.length := by simp [bc]
theorem bc_get (l : List UInt8) (j : Nat) : (bc l)[j]? = l[j]?.map (fun b => Value.int .u8 (b.toNat : Int)) := by simp [bc]
theorem bc_one (l : List UInt8) : ∀ u ∈ bc l, u.oneCell' = true := by
  intro u hu; simp [bc] at hu; obtain ⟨b, _, rfl⟩ := hu; rfl
/-- What an inward exchange has come to at its k-th round. -/
def rvAt (xs : List UInt8) (n k t : Nat) : Option UInt8 := if t < k ∨ n ≤ t + k then xs[n - 1 - t]? else xs[t]?
def RevI (w W : World) (g n cap : Nat) (E : TypeId) (xs : List UInt8) (k : Nat) : Prop :=
  w.grownBy W (some g) ∧ ∃ ys : List UInt8, ys.length = n ∧ W.ownsRow g E 1 (.slice (some ⟨g, 0, none⟩) n cap) n (bc ys) ∧ ∀ t, t < n → ys[t]? = rvAt xs n k t
theorem RevI.first {w : World} {g n cap : Nat} {E : TypeId} {xs : List UInt8} (hn : xs.length = n) (h : w.ownsRow g E 1 (.slice (some ⟨g, 0, none⟩) n cap) n (bc xs)) : RevI w w g n cap E xs 0 :=
  ⟨World.grownBy.refl _ _, xs, hn, h, fun t ht => by unfold rvAt; rw [if_neg (by omega)]⟩
theorem RevI.drew {w W : World} {g n cap k : Nat} {E : TypeId} {xs : List UInt8} (h : RevI w W g n cap E xs k) : RevI w W.drew g n cap E xs k :=
  ⟨⟨h.1.os, h.1.tape, h.1.output, h.1.size, h.1.block⟩, h.2⟩
theorem grown_set {w W : World} {g : Nat} (h : w.grownBy W (some g)) (j : Nat) (u : Value) : w.grownBy (W.setCell ⟨g, j, none⟩ u) (some g) := by
  refine ⟨h.os, h.tape, h.output, by simpa using h.size, fun k hk hne => ?_⟩
  rw [Below.heap_setCell _ _ _ _ (by simpa using hne)]
  exact h.block k hk hne
theorem RevI.step {w W : World} {g n cap k : Nat} {E : TypeId} {xs : List UInt8} (h : RevI w W g n cap E xs k) (hk : k + k + 1 < n) {a b : UInt8} (ha : rvAt xs n k k = some a) (hb : rvAt xs n k (n - 1 - k) = some b) :
    RevI w ((W.setCell ⟨g, k, none⟩ (.int .u8 (b.toNat : Int))).setCell ⟨g, n - 1 - k, none⟩ (.int .u8 (a.toNat : Int))) g n cap E xs (k + 1) := by
  obtain ⟨h1, ys, h2, h3, h4⟩ := h
  refine ⟨grown_set (grown_set h1 _ _) _ _, (ys.set k b).set (n - 1 - k) a, by simpa using h2, ?_, fun t ht => ?_⟩
  · have := ((h3.stored k (.int .u8 (b.toNat : Int))).1.stored (n - 1 - k) (.int .u8 (a.toNat : Int))).1
    rw [show bc ((ys.set k b).set (n - 1 - k) a) = ((bc ys).set k (.int .u8 (b.toNat : Int))).set (n - 1 - k) (.int .u8 (a.toNat : Int)) by simp [bc, List.map_set]]
    exact this
  · unfold rvAt at ha hb ⊢
    rw [if_neg (by omega)] at ha hb
    have := h4 t ht
    unfold rvAt at this
    by_cases e1 : t = n - 1 - k
    · subst e1
      rw [List.getElem?_set_self (by simp; omega), if_pos (by omega)]
      rw [show n - 1 - (n - 1 - k) = k by omega]; exact ha.symm
    · rw [List.getElem?_set_ne (fun e => e1 e.symm)]
      by_cases e2 : t = k
      · subst e2
        rw [List.getElem?_set_self (by omega), if_pos (by omega)]; exact hb.symm
      · rw [List.getElem?_set_ne (fun e => e2 e.symm), this]
        by_cases c : t < k ∨ n ≤ t + k
        · rw [if_pos c, if_pos (by omega)]
        · rw [if_neg c, if_neg (by omega)]
theorem RevI.last {w W : World} {g n cap k : Nat} {E : TypeId} {xs : List UInt8} (h : RevI w W g n cap E xs k) (hn : xs.length = n) (hk : n ≤ k + k + 1) :
    w.grownBy W (some g) ∧ W.ownsRow g E 1 (.slice (some ⟨g, 0, none⟩) n cap) n (bc xs.reverse) := by
  obtain ⟨h1, ys, h2, h3, h4⟩ := h
  refine ⟨h1, ?_⟩
  have : ys = xs.reverse := by
    apply List.ext_getElem?
    intro t
    by_cases ht : t < n
    · rw [h4 t ht]
      unfold rvAt
      rw [List.getElem?_reverse (by omega), hn]
      by_cases c : t < k ∨ n ≤ t + k
      · rw [if_pos c]
      · rw [if_neg c]; congr 1; omega
    · rw [List.getElem?_eq_none (by omega), List.getElem?_eq_none (by simp; omega)]
  rw [← this]; exact h3
theorem RevI.cells {w W : World} {g n cap k : Nat} {E : TypeId} {xs : List UInt8} (h : RevI w W g n cap E xs k) (hn : xs.length = n) (hk : k + k + 1 < n) :
    ∃ a b : UInt8, rvAt xs n k k = some a ∧ rvAt xs n k (n - 1 - k) = some b ∧ W.cell? ⟨g, k, none⟩ = some (.int .u8 (a.toNat : Int)) ∧ W.cell? ⟨g, n - 1 - k, none⟩ = some (.int .u8 (b.toNat : Int)) ∧
      W.frozen? ⟨g, k, none⟩ = false ∧ W.frozen? ⟨g, n - 1 - k, none⟩ = false := by
  obtain ⟨h1, ys, h2, h3, h4⟩ := h
  have ha := h4 k (by omega)
  have hb := h4 (n - 1 - k) (by omega)
  rw [List.getElem?_eq_getElem (by omega)] at ha hb
  refine ⟨ys[k], ys[n - 1 - k], ha.symm, hb.symm, ?_, ?_, h3.frozenAt _, h3.frozenAt _⟩
  · rw [h3.cellAt k (by omega), bc_get, List.getElem?_eq_getElem (by omega)]; rfl
  · rw [h3.cellAt (n - 1 - k) (by omega), bc_get, List.getElem?_eq_getElem (by omega)]; rfl
set_option maxHeartbeats 1000000 in
set_option maxRecDepth 100000 in
theorem rev_any (g n cap : Nat) (xs : List UInt8) (w : World) (hn : xs.length = n) (hm : n ≤ 9223372036854775807) (h : w.ownsRow g 5 1 (.slice (some ⟨g, 0, none⟩) n cap) n (bc xs)) :
    Calls Try.prog 37 #[.slice (some ⟨g, 0, none⟩) n cap] w fun e w' => e = .returned (.tuple #[]) ∧ w.grownBy w' (some g) ∧ w'.ownsRow g 5 1 (.slice (some ⟨g, 0, none⟩) n cap) n (bc xs.reverse) := by
  have HI0 := hide (RevI.first hn h)
  have HN := hide hn
  clear hn h
  go_enter Try.func37, Try.ntmps37
  go_wp2
  go_loopw [2, 3] (fun i j wr => ∃ k : Nat, k ≤ n ∧ i = .int .i64 k ∧ j = .int .i64 ((n : Int) - 1 - k) ∧ Hid (RevI w wr g n cap 5 xs k)) (fun i _ _ => n - (intOf i).toNat)
  case atStart => exact ⟨0, by omega, rfl, by simp, HI0⟩
  case round =>
    obtain ⟨k, hk, rfl, rfl, HI⟩ := hrel
    by_cases hlt : k + k + 1 < n
    · obtain ⟨a, b, ha, hb, c1, c2, f1, f2⟩ := HI.out.cells HN.out hlt
      have HA := hide ha
      have HB := hide hb
      clear ha hb
      obtain ⟨m, hm2⟩ : ∃ m, n - 1 - k = m := ⟨_, rfl⟩
      have HM := hide hm2
      rw [hm2] at c2 f2
      have e1 : (n : Int) - 1 - k = (m : Int) := by omega
      have d1 : decide (k < m) = true := by simp; omega
      have d2 : k < n := by omega
      have n1 : ¬ k = m := by omega
      have n2 : ¬ m = k := by omega
      have d3 : m < n := by omega
      rw [e1]
      have E1 := hide e1
      clear e1 hm2
      go_wp2_with fail
      go_region
      all_goals
        go_wp2
        go_roundw
        case rel =>
          refine ⟨k + 1, by omega, by go_num, ?_, ?_⟩
          · have := E1.out; refine congrArg (Value.int IntKind.i64) ?_; omega
          · have := HI.out.step hlt HA.out HB.out
            rw [HM.out] at this
            exact hide (by first | exact this.drew | exact this)
        case measure => simp [intOf]; omega
    · have d1 : decide ((k : Int) < (n : Int) - 1 - k) = false := by simp; omega
      go_wp2
      go_end0
      exact ⟨rfl, HI.out.last HN.out (by omega)⟩
theorem u8_info : (Try.prog.info? 5).map (fun i => (i.zero, i.size, i.bytes)) = some (some (.int .u8 0), 1, 1) := by kernel_rfl
theorem reads_byte {w : World} {g : Nat} {E : TypeId} {b : UInt8} (h : Blk w g E #[.int .u8 (b.toNat : Int)]) : Reads w w.heap.size 1 (some ⟨g, 0, none⟩) 1 (bc [b]) := by
  refine ⟨rfl, fun _ => ⟨_, rfl, h.lt, fun j u hu => ?_⟩⟩
  match j, hu with
  | 0, hu =>
    rw [show (⟨g, 0, none⟩ : Addr).add 0 = ⟨g, 0, none⟩ by rfl, h.cell]
    simpa [bc] using hu
theorem own_append_byte {w w' : World} {base : Nat} {l : List UInt8} {b : UInt8} {v' : Value} {n : Nat} (h : w'.ownsRow base 5 1 v' (n + 1) (bc l ++ bc [b])) : w'.ownsRow base 5 1 v' (n + 1) (bc (l ++ [b])) := by
  unfold bc at h ⊢; rw [List.map_append]; exact h
/-- append of one byte. -/
theorem wpList_append_byte {ops : Array Oper} {rest : List Oper} {o : Oper} {a : Act} {w : World} {Q : Exit → Act → World → Prop} (hgd : o.guard = none) (s x : Operand)
    (ho : o.op = .call { callee := .builtin .append, args := #[s, x], argTypes := #[61, 61] })
    (base : Nat) (v : Value) (n : Nat) (l : List UInt8) (hs : a.eval s = v) (hown : w.ownsRow base 5 1 v n (bc l))
    (g c : Nat) (b : UInt8) (hx : a.eval x = .slice (some ⟨g, 0, none⟩) 1 c) (hb : Blk w g 5 #[.int .u8 (b.toNat : Int)])
    (hn : n + 1 ≤ 140737488355328) (hbase : base ≤ w.heap.size)
    (h : ∀ v' w', w'.ownsRow base 5 1 v' (n + 1) (bc (l ++ [b])) → w.grownBy w' v.ownBlock → (v'.ownBlock = v.ownBlock ∨ v'.ownBlock = some w.heap.size) → wpList Try.prog ops Q rest (a.put o.dst v') w') : wpList Try.prog ops Q (o :: rest) a w := by
  have hi := u8_info
  cases hi0 : Try.prog.info? 5 with
  | none => rw [hi0] at hi; cases hi
  | some i0 =>
    rw [hi0] at hi
    simp only [Option.map_some, Option.some.injEq, Prod.mk.injEq] at hi
    exact wpList_append_any w hgd s x 61 ho base 5 i0 (.int .u8 0) 1 1 Try.underlying61 hi0 hi.1 hi.2.1 hi.2.2 rfl (by omega) v n (bc l) hs hown w.heap.size (some ⟨g, 0, none⟩) 1 c (bc [b]) hx (reads_byte hb) (bc_one _)
      (by unfold maxLen; omega) (by omega) hbase fun v' w' h1 h2 h3 => h v' w' (own_append_byte (w := w) h1) h2 h3
/-- string(b) of a row of the call's own. -/
theorem own_string {w : World} {base n : Nat} {v : Value} {l : List UInt8} (h : w.ownsRow base 5 1 v n (bc l)) : (convert 61 9 v).run Try.prog w = .ok (.string ⟨l.toArray⟩) w := by
  have hn : l.length = n := by have := h.1; rw [bc_len] at this; omega
  rcases h.2 with ⟨rfl, h0⟩ | ⟨g, cap, cur, rfl, _⟩
  · have : l = [] := List.eq_nil_of_length_eq_zero (by omega)
    subst this
    rw [run_convert_bytes_string w _ _ _ none 0 0 Try.underlying61 Try.underlying5 Try.underlying9]
    simp [Conv.bytesToString]
    rfl
  · subst hn
    exact run_convert_bytes_back w _ _ _ _ cap l Try.underlying61 Try.underlying5 Try.underlying9 fun j hj => h.cells (g := g) rfl j _ (by rw [bc_get, List.getElem?_eq_getElem hj]; rfl)
end Go.Proofs.Ytmfilhmcgagjcaa
