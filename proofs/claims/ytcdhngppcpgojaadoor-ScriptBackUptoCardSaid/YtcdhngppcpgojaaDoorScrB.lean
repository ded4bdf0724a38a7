/- The scripts' writer: ints, text, line. -/
import Derived.Test.YtcdhngppcpgojaaDoorScrA
namespace Go.Proofs.YtcdhngppcpgojaaDoor
set_option linter.unusedSimpArgs false
set_option linter.unusedVariables false
open Go.RowKit
/-- The library's table of powers of ten. -/
def Tab (w : World) : Prop := Lib.TabIs Tryd.prog w "internal/strconv.uint64pow10" .u64 Lib.pow10Tab
theorem tab_at : ∃ g, Tryd.prog.globalNamed "internal/strconv.uint64pow10" = some g := Option.isSome_iff_exists.1 (by kernel_rfl)
theorem Tab.below {w w' : World} (h : Tab w) (hb : Below w.heap.size w w') : Tab w' := by
  obtain ⟨g, hg⟩ := tab_at
  unfold Tab Lib.TabIs World.var? at h ⊢
  rw [hg] at h ⊢
  simp only [Option.bind_some] at h ⊢
  have hlt : g < w.heap.size := by
    rcases Nat.lt_or_ge g w.heap.size with h1 | h1
    · exact h1
    · rw [Array.getElem?_eq_none h1] at h; simp at h
  rw [hb.block g hlt]
  exact h
theorem Tn.tab {base : Nat} {w w' : World} (h : Tn base w w') (ht : Tab w) (hg : ∃ g, Tryd.prog.globalNamed "internal/strconv.uint64pow10" = some g ∧ g < base) : Tab w' := by
  obtain ⟨g, hg, hlt⟩ := hg
  unfold Tab Lib.TabIs World.var? at ht ⊢
  rw [hg] at ht ⊢
  simp only [Option.bind_some] at ht ⊢
  have hlt2 : g < w.heap.size := by
    rcases Nat.lt_or_ge g w.heap.size with h1 | h1
    · exact h1
    · rw [Array.getElem?_eq_none h1] at ht; simp at ht
  rw [h.block g hlt2 (.inl hlt)]
  exact ht
theorem itoa_any (n : Int) (w : World) (hn : -9223372036854775808 ≤ n ∧ n ≤ 9223372036854775807) (ht : Tab w) :
    Calls Tryd.prog 45 #[.int .i64 n] w fun e w' => e = .returned (str (Lib.itoa n)) ∧ Below w.heap.size w w' := by
  refine (Tryd.strconv_Itoa n hn.1 hn.2 w ht).mono ?_
  rintro e w' ⟨rfl, k, os, rfl⟩
  exact ⟨rfl, Lib.below_grow _ _ (Nat.le_refl _) _ _⟩
/-- A slice of numbers in a block that a writer leaves alone. -/
def IA (w : World) (base : Nat) (A : Option Addr) (n : Nat) (ns : List Int) : Prop :=
  ns.length = n ∧ (0 < n → ∃ g o, A = some ⟨g, o, none⟩ ∧ g < w.heap.size ∧ (g < base ∨ ∃ cs, Blk w g TInt cs) ∧ ∀ i x, ns[i]? = some x → w.cell? ⟨g, o + i, none⟩ = some (.int .i64 x))
theorem IA.keep {w w' : World} {base n : Nat} {A : Option Addr} {ns : List Int} (h : IA w base A n ns) (ht : Tn base w w') : IA w' base A n ns := by
  refine ⟨h.1, fun hn => ?_⟩
  obtain ⟨g, o, e, hg, hk, hc⟩ := h.2 hn
  have hb := ht.block g hg (hk.imp id fun ⟨cs, hb⟩ => ⟨cs, TInt, hb, by decide, by decide⟩)
  refine ⟨g, o, e, Nat.lt_of_lt_of_le hg ht.size, hk.imp id fun ⟨cs, h⟩ => ⟨cs, hb.trans h⟩, fun i x hx => ?_⟩
  rw [World.cell?_of_block hb]
  exact hc i x hx
def itos (ns : List Int) : List (List UInt8) := ns.map Lib.itoa
def inInt (ns : List Int) : Prop := ∀ x ∈ ns, -9223372036854775808 ≤ x ∧ x ≤ 9223372036854775807
theorem reads_one (w : World) (t : TypeId) (v : Value) : Reads (w.alloc (.cells #[v] t)) (w.heap.size + 1) 1 (some ⟨w.heap.size, 0, none⟩) 1 [v] := by
  refine ⟨rfl, fun _ => ⟨_, rfl, Nat.lt_succ_self _, fun j y hy => ?_⟩⟩
  rw [show (⟨w.heap.size, 0, none⟩ : Addr).add j = ⟨w.heap.size, j, none⟩ by unfold Addr.add; split <;> simp_all, (Blk.new w t #[v]).cell, ← Array.getElem?_toList]
  exact hy
set_option maxRecDepth 100000 in
set_option maxHeartbeats 1000000 in
theorem ints_any {w : World} {base b : Nat} {xs : List (List UInt8)} {v : Value} (h : Wr w base b xs v) (A : Option Addr) (n c : Nat) (ns : List Int) (hr : IA w base A n ns) (hi : inInt ns) (ht : Tab w) (hg : ∃ g, Tryd.prog.globalNamed "internal/strconv.uint64pow10" = some g ∧ g < base)
    (hn : xs.length + n ≤ 4000000) (hbase : base ≤ w.heap.size) :
    Calls Tryd.prog 23 #[.pointer (some ⟨b, 0, none⟩), .slice A n c] w fun e w' => e = .returned (.tuple #[]) ∧ (∃ v', Wr w' base b (xs ++ itos ns) v') ∧ Tn base w w' := by
  have H := hide h
  have HR := hide hr
  have HI := hide hi
  have HT := hide ht
  have HG := hide hg
  clear h hr hi ht hg
  go_enter Tryd.func23, Tryd.ntmps23
  go_wp2_with fail
  go_loopw [8] (fun i wr => ∃ k : Nat, k ≤ n ∧ i = .int .i64 k ∧ Hid (Tn base w wr ∧ ∃ v', Wr wr base b (xs ++ itos (ns.take k)) v')) (fun i _ => n - (intOf i).toNat)
  case atStart => exact ⟨0, by omega, rfl, hide ⟨Tn.refl _ _, v, by simpa [itos] using H.out⟩⟩
  case round =>
    obtain ⟨k, hk, rfl, HL⟩ := hrel
    by_cases hlt : k < n
    · obtain ⟨hT, v', hW⟩ := HL.out
      obtain ⟨hlen, hrr⟩ := HR.out.keep hT
      obtain ⟨g, o, rfl, hgl, hgk, hc⟩ := hrr (by omega)
      obtain ⟨x, hx⟩ : ∃ x, ns[k]? = some x := ⟨ns[k], List.getElem?_eq_getElem (by omega)⟩
      have c0 := hc k x hx
      have hxi := HI.out x (List.mem_of_getElem? hx)
      have htk : itos (ns.take (k + 1)) = itos (ns.take k) ++ [Lib.itoa x] := by
        unfold itos
        have hl : k < ns.length := by omega
        rw [List.take_succ_eq_append_getElem hl, List.map_append]
        have : ns[k] = x := by rw [List.getElem?_eq_getElem hl] at hx; injection hx
        rw [this]; rfl
      have hlk : (xs ++ itos (ns.take k)).length = xs.length + k := by rw [List.length_append]; unfold itos; simp; omega
      have HTN := hide hT
      have HW := hide hW
      have HXI := hide hxi
      have HTK := hide htk
      have HLK := hide hlk
      have HTB := hide (hT.tab HT.out HG.out)
      clear hT hW hlen hrr hgk hc hx hxi htk hlk HL
      go_wp2_with (first | (go_at_call 45; (refine (itoa_any x wr HXI.out HTB.out).mono ?_); rintro e w1 ⟨rfl, hb1⟩; have HB1 := hide hb1; have HW1 := hide (HW.out.later hb1); clear hb1) | (go_at_call 29; have hr1 : Reads (w1.alloc (.cells #[str (Lib.itoa x)] TStr)) (w1.alloc (.cells #[str (Lib.itoa x)] TStr)).heap.size 1 (some ⟨w1.heap.size, 0, none⟩) 1 ([Lib.itoa x].map str) := by { have := reads_one w1 TStr (str (Lib.itoa x)); simpa using this }; have hbs : base ≤ (w1.alloc (.cells #[str (Lib.itoa x)] TStr)).heap.size := by { simp; have := HB1.out.size; have := HTN.out.size; omega }; (refine (put_any (HW1.out.later ((Below.refl w1.heap.size w1).alloc (Nat.le_refl _) (Obj.cells #[str (Lib.itoa x)] TStr))) (some ⟨w1.heap.size, 0, none⟩) 1 1 hr1 (by rw [HLK.out]; omega) hbs).mono ?_); rintro e w2 ⟨rfl, ⟨v2, h2⟩, hT2⟩; have H2 := hide h2; have HT2 := hide (((HTN.out.trans (Tn.of_below HB1.out)).trans (Tn.of_below ((Below.refl _ _).alloc (Nat.le_refl _) _))).trans hT2); clear h2 hT2))
      go_roundw
      case rel => exact ⟨k + 1, by omega, by go_num, hide ⟨HT2.out, v2, by rw [HTK.out, ← List.append_assoc]; exact H2.out⟩⟩
      case measure => simp [intOf]; omega
    · have e : k = n := by omega
      subst e
      go_wp2
      go_end0
      obtain ⟨hT, v', hW⟩ := HL.out
      rw [← HR.out.1, List.take_length] at hW
      exact ⟨rfl, ⟨v', hW⟩, hT⟩
set_option maxRecDepth 100000 in
set_option maxHeartbeats 1000000 in
theorem line_any {w : World} {base b : Nat} {xs : List (List UInt8)} {v : Value} (h : Wr w base b xs v) (h0 : xs ≠ []) (hn : xs.length ≤ 4000000) (hl : (Lib.join xs [32]).length ≤ 140737488355328) :
    Calls Tryd.prog 25 #[.pointer (some ⟨b, 0, none⟩)] w fun e w' => e = .returned (str (Lib.join xs [32])) ∧ Below w.heap.size w w' := by
  obtain ⟨g, cap, rfl, hgb, hgl⟩ := h.row.form (by have := List.length_pos_iff.2 h0; omega)
  have hcap : xs.length ≤ cap := by
    rcases h.row.2 with ⟨e, _⟩ | ⟨g', cap', cur, e, _, _, hc, _⟩
    · cases e
    · injection e with _ _ e3
      rw [e3]; exact hc
  have hcells : ∀ (j : Nat) x, (xs.map (fun l => (⟨l.toArray⟩ : ByteArray)))[j]? = some x → w.cell? ⟨g, 0 + j, none⟩ = some (.string x) := by
    intro j x hx
    rw [List.getElem?_map] at hx
    obtain ⟨l, hl, rfl⟩ := Option.map_eq_some_iff.1 hx
    have := h.row.cells (g := g) rfl j (str l) (by rw [List.getElem?_map, hl]; rfl)
    rw [show (⟨g, 0, none⟩ : Addr).add j = ⟨g, j, none⟩ by unfold Addr.add; split <;> simp_all] at this
    rw [Nat.zero_add]
    exact this
  have hj := Tryd.strings_Join g 0 cap (xs.map (fun l => (⟨l.toArray⟩ : ByteArray))) ⟨#[32]⟩ w hcells hgl (by rw [List.length_map]; omega) (by rw [List.length_map]; exact hcap) (by simpa [Function.comp_def] using hl)
  rw [List.length_map, show (xs.map (fun l => (⟨l.toArray⟩ : ByteArray))).map (fun x => x.data.toList) = xs by simp [Function.comp_def]] at hj
  have HJ := hide hj
  have kx := h.blk.cell 0; have qx := h.blk.frozen 0; have zx := h.blk.lt
  simp at kx
  clear h hl hcells hj
  go_enter Tryd.func25, Tryd.ntmps25
  go_wp2_with (go_at_call 28; (refine HJ.out.mono ?_); rintro e w1 ⟨rfl, hb1⟩; have HB1 := hide hb1; clear hb1)
  go_ret
  exact ⟨rfl, HB1.out⟩
end Go.Proofs.YtcdhngppcpgojaaDoor
