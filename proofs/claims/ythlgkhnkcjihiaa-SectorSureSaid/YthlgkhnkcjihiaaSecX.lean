/- The sectors' disk: Copy. -/
import Derived.Test.YthlgkhnkcjihiaaSecW
namespace Go.Proofs.Ythlgkhnkcjihiaa
set_option linter.unusedSimpArgs false
set_option linter.unusedVariables false
open Go.RowKit
/-- Block r holds no cells. -/
def NoC (w : World) (r : Nat) : Prop := ∀ cs t z, w.heap[r]? ≠ some (.cells cs t z)
section
variable {w w' : World} {r : Nat}
theorem Blk.off {g : Nat} {t : TypeId} {cs : Array Value} (h : Blk w g t cs) (hg : w.grownBy w' (some r)) (hn : NoC w r) : Blk w' g t cs :=
  h.grown hg (fun e => by injection e with e; subst e; exact hn _ _ _ h)
theorem Fil.off {F : Nat → Prop} {v : Value} {c : Int} (h : Fil w F v c) (hg : w.grownBy w' (some r)) (hn : NoC w r) : Fil w' F v c := by
  obtain ⟨hc, g, cap, cs, e, hf, hb, hcs⟩ := h
  exact ⟨hc, g, cap, cs, e, hf, hb.off hg hn, hcs⟩
theorem row_off {base : Nat} {e : TypeId} {size : Nat} {v : Value} {n : Nat} {xs : List Value} (h : w.ownsRow base e size v n xs) (hg : w.grownBy w' (some r)) (hn : NoC w r) : w'.ownsRow base e size v n xs := by
  refine ⟨h.1, ?_⟩
  rcases h.2 with h0 | ⟨g, cap, cur, rfl, hbs, hgg, rest⟩
  · exact .inl h0
  · exact .inr ⟨g, cap, cur, rfl, hbs, (hg.block g (Array.getElem?_eq_some_iff.1 hgg).1 (fun e => by injection e with e; subst e; exact hn _ _ _ hgg)).trans hgg, rest⟩
theorem Cop.off {base : Nat} {us us' : List UW} {v : Value} (h : Cop base w us us' v) (hg : w.grownBy w' (some r)) (hn : NoC w r) : Cop base w' us us' v :=
  ⟨row_off h.row hg hn, fun x hx => (h.fil x hx).off hg hn, h.same⟩
theorem noC_iter {b n cnt : Nat} {D : DataW Value} {lft : Lit → Bool} (h : w.ranges Try.prog 3 heldR b r n D lft cnt) : NoC w r := by
  obtain ⟨es, clock, since, seen, c0, hb, _, _, _, hr, _⟩ := h
  intro cs t z e
  rw [hr] at e
  cases e
theorem noC_map {n : Nat} {D : DataW Value} (h : DMap w r n D) : NoC w r := by
  obtain ⟨es, clock, hb, _⟩ := h
  intro cs t z e
  rw [hb] at e
  cases e
theorem map_later {b n : Nat} {D : DataW Value} (h : DMap w b n D) (hb : Below w.heap.size w w') : DMap w' b n D := map_keep h (hb.block b h.lt)
end
/-- A copy under way. -/
structure CpI (w wr : World) (out : Bool) (left size : Int) (S : Int → Int) (us us' : List UW) (D : DataW Value) (n bc mm r : Nat) (v4 : Value) (lft : Lit → Bool) (cnt : Nat) (D' : DataW Value) : Prop where
  bl : Below w.heap.size w wr
  hbc : w.heap.size ≤ bc
  hmm : w.heap.size ≤ mm
  hr : w.heap.size ≤ r
  blk : Blk wr bc TD (dk out left size (some mm) v4)
  cop : Cop w.heap.size wr us us' v4
  rg : wr.ranges Try.prog 3 heldR mm r n D' lft cnt
  has : ∀ k : Int, Maps.has D' (kl k) = Maps.has D (kl k)
  old : ∀ k : Int, lft (kl k) = true → D'.atKey (kl k) Z0 = D.atKey (kl k) Z0 ∧ Maps.has D (kl k) = true
  new : ∀ k : Int, Maps.has D (kl k) = true → lft (kl k) = false → ∃ v, D'.atKey (kl k) Z0 = .held v ∧ Fil wr (fun j => w.heap.size ≤ j) v (S k)
section
variable {w wr w1 : World} {out : Bool} {left size : Int} {S : Int → Int} {us us' : List UW} {D : DataW Value} {n bc mm r : Nat} {v4 : Value} {lft : Lit → Bool} {cnt cnt1 : Nat} {D' : DataW Value}
/-- The round's store. -/
theorem CpI.step (h : CpI w wr out left size S us us' D n bc mm r v4 lft cnt D') {x : Int} (hlx : lft (kl x) = true) {wa wb wc : World} {v : Value}
    (hrg : wa.ranges Try.prog 3 heldR mm r n D' (fun z => lft z && !z.sameKey (kl x)) cnt1) (ha : wr.grownBy wa (some r)) (hb : Below wa.heap.size wa wb) (hf : Fil wb (fun j => w.heap.size ≤ j) v (S x))
    (hrc : wc.ranges Try.prog 3 heldR mm r n (D'.put (kl x) (.held v)) (fun z => lft z && !z.sameKey (kl x)) cnt1) (hc : wb.grownBy wc (some mm)) :
    CpI w wc out left size S us us' D n bc mm r v4 (fun z => lft z && !z.sameKey (kl x)) cnt1 (D'.put (kl x) (.held v)) := by
  have n1 := noC_iter h.rg
  have n2 : NoC wb mm := noC_map (map_later hrg.owns hb)
  have hsz := h.bl.size
  have key : ∀ {v c}, Fil wr (fun j => w.heap.size ≤ j) v c → Fil wc (fun j => w.heap.size ≤ j) v c := fun hf => ((hf.off ha n1).below hb (fun _ h => h)).off hc n2
  have hm : Maps.IsMap D' := hrg.owns.isMap
  have hk : WideAt.IsKeyLit (kl x) := trivial
  have hlast : ∀ k : Int, (kl k).sameKey (kl x) = true → k = x := fun k e => by
    have := WideAt.sameKey_eq e
    injection this
  refine ⟨?_, h.hbc, h.hmm, h.hr, ?_, ?_, hrc, fun k => ?_, fun k hl => ?_, fun k hh hl => ?_⟩
  · have b1 := h.bl.grown ha hsz (fun j e => by injection e with e; subst e; exact h.hr)
    have b2 := b1.trans (hb.mono b1.size)
    exact b2.grown hc b2.size (fun j e => by injection e with e; subst e; exact h.hmm)
  · have b1 := h.blk.off ha n1
    exact (b1.below hb b1.lt).off hc n2
  · exact ((h.cop.off ha n1).later hb).off hc n2
  · by_cases e : k = x
    · subst e
      rw [Maps.has_put_same hm hk, (h.old k hlx).2]
    · rw [Maps.has_put_other (kl_ne e), h.has k]
  · simp only [Bool.and_eq_true, Bool.not_eq_true'] at hl
    have e : k ≠ x := by
      rintro rfl
      rw [WideAt.sameKey_self hk] at hl
      cases hl.2
    rw [Maps.atKey_put_other (kl_ne e)]
    exact h.old k hl.1
  · by_cases e : k = x
    · subst e
      exact ⟨v, Maps.atKey_put_same hm hk _ _, hf.off hc n2⟩
    · rw [Maps.atKey_put_other (kl_ne e)]
      have hl' : lft (kl k) = false := by
        cases hlk : lft (kl k)
        · rfl
        · rw [hlk] at hl
          cases hs : (kl k).sameKey (kl x)
          · rw [hs] at hl; simp at hl
          · exact absurd (hlast k hs) e
      obtain ⟨v', h1, h2⟩ := h.new k hh hl'
      exact ⟨v', h1, key h2⟩
theorem CpI.done {F : Nat → Prop} {b m N : Nat} {L : List (Int × Int)} {u : Value} (h : CpI w wr out left size S us us' D n bc mm r v4 lft cnt D') (hl : ∀ z, lft z = false) (hs : SecG w F b out left size S L N m u n D us) :
    Sec wr (fun j => w.heap.size ≤ j ∧ j < wr.heap.size) bc out left size S L N := by
  have hlen : us'.length = us.length := by
    have := congrArg List.length h.cop.same
    simpa using this
  have hF : ∀ {v c}, Fil wr (fun j => w.heap.size ≤ j) v c → Fil wr (fun j => w.heap.size ≤ j ∧ j < wr.heap.size) v c := fun hf => by
    obtain ⟨hc, g, cap, cs, e, hf, hb, hcs⟩ := hf
    exact ⟨hc, g, cap, cs, e, ⟨hf, hb.lt⟩, hb, hcs⟩
  refine ⟨mm, v4, n, D', us', { blk := h.blk, fb := ⟨h.hbc, h.blk.lt⟩, fm := ⟨h.hmm, h.rg.owns.lt⟩, map := h.rg.owns, row := own_base h.cop.row (Nat.zero_le _), fu := fun g hg => ?_, fil := fun x hx => ⟨hF (h.cop.fil x hx), ?_⟩, hL := h.cop.same.trans hs.hL, sure := fun k h0 h1 => ⟨fun hh => ?_, fun hh => ?_⟩, hn := by have := hs.hn; omega, hN := hs.hN, hs := hs.hs, hl := hs.hl, flt := fun j hj => hj.2, dom := fun k hh => hs.dom k (by rw [← h.has k]; exact hh) }⟩
  · exact h.cop.row.lt g hg
  · have : ac x ∈ us.map ac := h.cop.same ▸ List.mem_map.2 ⟨x, hx, rfl⟩
    obtain ⟨y, hy, e⟩ := List.mem_map.1 this
    have := (hs.fil y hy).2
    unfold ac at e
    injection e with e1 e2
    rw [← e1]
    exact this
  · obtain ⟨v, h1, h2⟩ := h.new k (by rw [← h.has k]; exact hh) (hl _)
    exact ⟨v, h1, hF h2⟩
  · exact (hs.sure k h0 h1).2 (by rw [← h.has k]; exact hh)
end
set_option maxRecDepth 100000 in
set_option maxHeartbeats 2000000 in
theorem sec_copy {w : World} {F : Nat → Prop} {b : Nat} {out : Bool} {left size : Int} {S : Int → Int} {L : List (Int × Int)} {N : Nat} (h : Sec w F b out left size S L N) :
    Calls Try.prog 22 #[.pointer (some ⟨b, 0, none⟩)] w fun e w' => ∃ bc, e = .returned (.pointer (some ⟨bc, 0, none⟩)) ∧ Sec w' (fun j => w.heap.size ≤ j ∧ j < w'.heap.size) bc out left size S L N ∧ Below w.heap.size w w' := by
  obtain ⟨m, u, n, D, us, h⟩ := h
  obtain ⟨A, cap, rfl, _, hs⟩ := sec_forms h
  have H := hide h
  have HS := hide hs
  have hul : us.length ≤ 200000 := by have := h.hn; have := h.hN; omega
  have hnn : n ≤ 200000 := by have := h.hn; have := h.hN; omega
  clear h hs
  go_enter Try.func22, Try.ntmps22
  go_wp2
  refine wp_region_stage (by kernel_rfl) (by kernel_rfl) 46 3
    [⟨some 8, false, 0, 2, fun _ v _ => v = .pointer (some ⟨b, 0, none⟩)⟩,
     ⟨some 9, false, 0, 2, fun _ v _ => v = .pointer (some ⟨b, 0, none⟩)⟩,
     ⟨some 10, false, 0, 2, fun _ v _ => v = .pointer (some ⟨b, 0, none⟩)⟩,
     ⟨some 11, false, 0, 2, fun _ v _ => v = .agg #[.bool out, .int .i64 left]⟩,
     ⟨some 12, false, 0, 2, fun _ v _ => v = .pointer (some ⟨b, 0, none⟩)⟩,
     ⟨some 13, false, 0, 2, fun _ v _ => v = .pointer (some ⟨b, 0, none⟩)⟩,
     ⟨some 14, false, 0, 2, fun _ v _ => v = .pointer (some ⟨b, 2, none⟩)⟩,
     ⟨some 15, false, 0, 2, fun _ v _ => v = .int .i64 size⟩,
     ⟨some 16, false, 0, 0, fun _ v _ => v = .pointer (some ⟨b, 0, none⟩)⟩,
     ⟨some 17, false, 0, 0, fun _ v _ => v = .pointer (some ⟨b, 0, none⟩)⟩,
     ⟨some 18, false, 0, 0, fun _ v _ => v = .pointer (some ⟨b, 3, none⟩)⟩,
     ⟨some 19, false, 0, 0, fun _ v _ => v = .map (some m)⟩,
     ⟨some 20, true, 0, 0, fun _ v w' => ∃ mm, v = .map (some mm) ∧ w.heap.size ≤ mm ∧ DMap w' mm n D⟩,
     ⟨some 21, false, 0, 1, fun _ v _ => v = .pointer (some ⟨b, 0, none⟩)⟩,
     ⟨some 22, false, 0, 1, fun _ v _ => v = .pointer (some ⟨b, 0, none⟩)⟩,
     ⟨some 23, false, 0, 1, fun _ v _ => v = .pointer (some ⟨b, 4, none⟩)⟩,
     ⟨some 24, false, 0, 1, fun _ v _ => v = .slice A us.length cap⟩,
     ⟨some 25, true, 1, 1, fun _ v w' => ∃ us', Cop w.heap.size w' us us' v⟩,
     ⟨some 26, false, 2, 2, fun _ v w' => ∃ mm us' v4, v = .agg #[.bool out, .int .i64 left, .int .i64 size, .map (some mm), v4] ∧ w.heap.size ≤ mm ∧ DMap w' mm n D ∧ Cop w.heap.size w' us us' v4⟩,
     ⟨some 27, true, 2, 2, fun _ v w' => ∃ bc mm us' v4, v = .pointer (some ⟨bc, 0, none⟩) ∧ w.heap.size ≤ bc ∧ Blk w' bc TD (dk out left size (some mm) v4) ∧ w.heap.size ≤ mm ∧ DMap w' mm n D ∧ Cop w.heap.size w' us us' v4⟩,
     ⟨some 3, false, 3, 3, fun _ v w' => ∃ bc mm us' v4, v = .pointer (some ⟨bc, 0, none⟩) ∧ w.heap.size ≤ bc ∧ Blk w' bc TD (dk out left size (some mm) v4) ∧ w.heap.size ≤ mm ∧ DMap w' mm n D ∧ Cop w.heap.size w' us us' v4⟩] (fun _ w' => Below w.heap.size w w') (fun _ w w' => Below w.heap.size w w') [8, 9, 10, 11, 12, 13, 14, 15, 16, 17, 18, 19, 20, 21, 22, 23, 24, 25, 26, 27, 3] rfl (by kernel_rfl) rfl ?g0 ?keep ?steps ?fin
  case keep =>
    intro e he s v w w' hm hsM ht hv
    simp only [List.mem_cons, List.not_mem_nil, or_false] at he
    rcases he with rfl | rfl | rfl | rfl | rfl | rfl | rfl | rfl | rfl | rfl | rfl | rfl | rfl | rfl | rfl | rfl | rfl | rfl | rfl | rfl | rfl
    all_goals first | exact hv | (obtain ⟨mm, e, h1, h2⟩ := hv; exact ⟨mm, e, h1, map_later h2 ht⟩) | (obtain ⟨us', h2⟩ := hv; exact ⟨us', h2.later ht⟩) | (obtain ⟨mm, us', v4, e, h1, h2, h3⟩ := hv; exact ⟨mm, us', v4, e, h1, map_later h2 ht, h3.later ht⟩) | (obtain ⟨bc, mm, us', v4, e, h0, h01, h1, h2, h3⟩ := hv; exact ⟨bc, mm, us', v4, e, h0, h01.below ht h01.lt, h1, map_later h2 ht, h3.later ht⟩)
  case steps =>
    refine ⟨?_, ?_, ?_, ?_, ?_, ?_, ?_, ?_, ?_, ?_, ?_, ?_, ?_, ?_, ?_, ?_, ?_, ?_, ?_, ?_, ?_, trivial⟩
    · intro st hlo hhi ac w3 hg hG hd K hK
      dsimp only at hlo hhi hG hK
      exact op_move _ rfl (hK _ (hg.kp 0 (by simp)))
    · intro st hlo hhi ac w3 hg hG hd K hK
      dsimp only at hlo hhi hG hK
      have f0 := hd ⟨0, .data⟩ (by simp) rfl _ rfl _ rfl
      (try simp [Act.eval] at f0)
      go_simp
      exact hK _ rfl
    · intro st hlo hhi ac w3 hg hG hd K hK
      dsimp only at hlo hhi hG hK
      have f1 := hd ⟨1, .data⟩ (by simp) rfl _ rfl _ rfl
      (try simp [Act.eval] at f1)
      go_simp
      exact hK _ rfl
    · intro st hlo hhi ac w3 hg hG hd K hK
      dsimp only at hlo hhi hG hK
      have kk := (H.out.below hG).blk
      have k0 := kk.cell 0
      have k1 := kk.cell 1
      have zz := kk.lt
      simp [dk] at k0 k1
      clear kk
      have f2 := hd ⟨2, .data⟩ (by simp) rfl _ rfl _ rfl
      (try simp [Act.eval] at f2)
      go_simp
      exact hK _ rfl
    · intro st hlo hhi ac w3 hg hG hd K hK
      dsimp only at hlo hhi hG hK
      exact op_move _ rfl (hK _ (hg.kp 0 (by simp)))
    · intro st hlo hhi ac w3 hg hG hd K hK
      dsimp only at hlo hhi hG hK
      have f4 := hd ⟨4, .data⟩ (by simp) rfl _ rfl _ rfl
      (try simp [Act.eval] at f4)
      go_simp
      exact hK _ rfl
    · intro st hlo hhi ac w3 hg hG hd K hK
      dsimp only at hlo hhi hG hK
      have f5 := hd ⟨5, .data⟩ (by simp) rfl _ rfl _ rfl
      (try simp [Act.eval] at f5)
      go_simp
      exact hK _ rfl
    · intro st hlo hhi ac w3 hg hG hd K hK
      dsimp only at hlo hhi hG hK
      have kk := (H.out.below hG).blk
      have k0 := kk.cell 2
      have zz := kk.lt
      simp [dk] at k0
      clear kk
      have f6 := hd ⟨6, .data⟩ (by simp) rfl _ rfl _ rfl
      (try simp [Act.eval] at f6)
      go_simp
      exact hK _ rfl
    · intro st hlo hhi ac w3 hg hG hd K hK
      dsimp only at hlo hhi hG hK
      exact op_move _ rfl (hK _ (hg.kp 0 (by simp)))
    · intro st hlo hhi ac w3 hg hG hd K hK
      dsimp only at hlo hhi hG hK
      have f8 := hd ⟨8, .data⟩ (by simp) rfl _ rfl _ rfl
      (try simp [Act.eval] at f8)
      go_simp
      exact hK _ rfl
    · intro st hlo hhi ac w3 hg hG hd K hK
      dsimp only at hlo hhi hG hK
      have f9 := hd ⟨9, .data⟩ (by simp) rfl _ rfl _ rfl
      (try simp [Act.eval] at f9)
      go_simp
      exact hK _ rfl
    · intro st hlo hhi ac w3 hg hG hd K hK
      dsimp only at hlo hhi hG hK
      have kk := (H.out.below hG).blk
      have k0 := kk.cell 3
      have zz := kk.lt
      simp [dk] at k0
      clear kk
      have f10 := hd ⟨10, .data⟩ (by simp) rfl _ rfl _ rfl
      (try simp [Act.eval] at f10)
      go_simp
      exact hK _ rfl
    · intro ac w3 hg hG hd K hK
      dsimp only [Nat.zero_add, Nat.reduceAdd] at hG hK
      have f11 := hd ⟨11, .data⟩ (by simp) rfl _ rfl _ rfl
      simp [Act.eval] at f11
      go_simp
      (refine (mclone_any m n D w3 (H.out.below hG).map).mono ?_)
      rintro e w4 ⟨rfl, h4, hb4⟩
      exact hK (.map (some w3.heap.size)) w4 hb4 (hG.trans (hb4.mono hG.size)) ⟨_, rfl, hG.size, h4⟩
    · intro st hlo hhi ac w3 hg hG hd K hK
      dsimp only at hlo hhi hG hK
      exact op_move _ rfl (hK _ (hg.kp 0 (by simp)))
    · intro st hlo hhi ac w3 hg hG hd K hK
      dsimp only at hlo hhi hG hK
      have f13 := hd ⟨13, .data⟩ (by simp) rfl _ rfl _ rfl
      (try simp [Act.eval] at f13)
      go_simp
      exact hK _ rfl
    · intro st hlo hhi ac w3 hg hG hd K hK
      dsimp only at hlo hhi hG hK
      have f14 := hd ⟨14, .data⟩ (by simp) rfl _ rfl _ rfl
      (try simp [Act.eval] at f14)
      go_simp
      exact hK _ rfl
    · intro st hlo hhi ac w3 hg hG hd K hK
      dsimp only at hlo hhi hG hK
      have kk := (H.out.below hG).blk
      have k0 := kk.cell 4
      have zz := kk.lt
      simp [dk] at k0
      clear kk
      have f15 := hd ⟨15, .data⟩ (by simp) rfl _ rfl _ rfl
      (try simp [Act.eval] at f15)
      go_simp
      exact hK _ rfl
    · intro ac w3 hg hG hd K hK
      dsimp only [Nat.zero_add, Nat.reduceAdd] at hG hK
      have f16 := hd ⟨16, .data⟩ (by simp) rfl _ rfl _ rfl
      simp [Act.eval] at f16
      go_simp
      (refine (copies_any us A us.length cap w3 (HS.out.later hG) (fun x hx => ⟨F, (H.out.below hG).fil x hx |>.1⟩) hul).mono ?_)
      rintro e w4 ⟨v, us', rfl, hc, hb4⟩
      exact hK v w4 hb4 (hG.trans (hb4.mono hG.size)) ⟨us', own_base hc.row hG.size, fun x hx => (hc.fil x hx).keep (fun _ _ => rfl) (fun j hj => Nat.le_trans hG.size hj), hc.same⟩
    · intro st hlo hhi ac w3 hg hG hd K hK
      dsimp only at hlo hhi hG hK
      have f3 := hd ⟨3, .data⟩ (by simp) rfl _ rfl _ rfl
      have f7 := hd ⟨7, .data⟩ (by simp) rfl _ rfl _ rfl
      obtain ⟨mm, f12, hmm, hdm⟩ := hd ⟨12, .data⟩ (by simp) rfl _ rfl _ rfl
      obtain ⟨us', hc⟩ := hd ⟨17, .data⟩ (by simp) rfl _ rfl _ rfl
      obtain ⟨A1, c1, f17⟩ := row_form hc.row
      rw [f17] at hc
      have HC := hide hc
      have HD := hide hdm
      clear hc hdm
      simp [Act.eval] at f3 f7 f12 f17
      go_simp
      exact hK _ ⟨mm, us', _, rfl, hmm, HD.out, HC.out⟩
    · intro ac w3 hg hG hd K hK
      dsimp only [Nat.zero_add, Nat.reduceAdd] at hG hK
      obtain ⟨mm, us', v4, f18, hmm, hdm, hc⟩ := hd ⟨18, .data⟩ (by simp) rfl _ rfl _ rfl
      obtain ⟨A1, c1, f17⟩ := row_form hc.row
      subst f17
      have HC := hide hc
      have HD := hide hdm
      clear hc hdm
      simp [Act.eval] at f18
      go_simp
      exact hK (.pointer (some ⟨w3.heap.size, 0, none⟩)) _ ((Below.refl _ _).alloc (Nat.le_refl _) _) (hG.alloc hG.size _) ⟨_, _, us', _, rfl, hG.size, Blk.new w3 _ _, hmm, map_later HD.out ((Below.refl _ _).alloc (Nat.le_refl _) _), HC.out.later ((Below.refl _ _).alloc (Nat.le_refl _) _)⟩
    · intro st hlo hhi ac w3 hg hG hd K hK
      dsimp only at hlo hhi hG hK
      exact op_assign _ rfl (hK _ (hd ⟨19, .data⟩ (by simp) rfl _ rfl _ rfl))
  case g0 => exact (Below.refl _ _).drew
  case fin =>
    intro f w5 hG hall
    have h3 := hall _ (List.mem_of_getElem? (i := 20) rfl) 3 rfl
    obtain ⟨bc, mm, us', v4, e3, hbc, hkb, hmm, hdm, hc⟩ := h3
    clear hall
    simp only [fillF, List.map_cons, List.map_nil, List.foldl_cons, List.foldl_nil, Act.put, List.setIfInBounds_toArray, List.set_cons_zero, List.set_cons_succ]
    rw [show f 3 = .pointer (some ⟨bc, 0, none⟩) from e3]
    clear e3
    have kx := hkb.cell; have qx := hkb.frozen; have zx := hkb.lt
    unfold dk at kx
    have HKB := hide hkb
    have HDM := hide hdm
    have HC := hide hc
    have HG := hide hG
    clear hkb hdm hc hG
    go_wp2_with (at_range; (refine wpList_range_own _ rfl _ 64 rfl 3 31 keyed Try.underlying64 heldR mm n D rfl HDM.out ?_); intro w6 hrg6 hg6 hs6; have hb6 : Below w5.heap.size w5 w6 := ⟨hg6.os, hg6.tape, hg6.output, hg6.size, fun j hj => hg6.block j hj (by simp)⟩; have HI0 := hide (show CpI w w6 out left size S us us' D n bc mm w5.heap.size v4 (Maps.has D) (Maps.size D) D from ⟨HG.out.trans (hb6.mono HG.out.size), hbc, hmm, HG.out.size, HKB.out.below hb6 HKB.out.lt, HC.out.later hb6, hrg6, fun _ => rfl, fun k hk => ⟨rfl, hk⟩, fun k h1 h2 => by rw [h1] at h2; cases h2⟩); clear hrg6 hg6 hb6 kx qx zx)
    go_frame
    obtain ⟨ri, hri⟩ : ∃ ri, w5.heap.size = ri := ⟨_, rfl⟩
    rw [hri] at HI0 ⊢
    go_loopw [4] (fun _ wr => ∃ lft cnt D', Hid (CpI w wr out left size S us us' D n bc mm ri v4 lft cnt D')) (fun _ wr => wr.rangeLeft mm ri)
    case atStart => exact ⟨_, _, _, HI0⟩
    case round =>
      obtain ⟨lft, cnt, D', HI⟩ := hrel
      have kx := HI.out.blk.cell; have qx := HI.out.blk.frozen; have zx := HI.out.blk.lt
      unfold dk at kx
      go_wp2_with (at_next; (refine wpList_next_ranges _ rfl _ rfl 3 keyed heldR (Value.int .i64) (fun (v : Value) => v) (fun key kl' hkey => by obtain ⟨x, rfl, _⟩ := Maps.keyOf_int_inv Try.underlying3 hkey; exact ⟨x, rfl⟩) (fun v y _ => ⟨v, rfl⟩) mm ri n D' lft cnt rfl HI.out.rg ?_ ?_))
      case refine_1 =>
        intro hc0 hl0
        have HL := hide hl0
        clear hl0 hc0
        go_wp2
        go_ret
        exact ⟨bc, rfl, HI.out.done HL.out H.out, HI.out.bl⟩
      case refine_2 =>
        intro x c kl' d ps w1 cnt1 hkey hlk hR hat hrg1 hlt hg1 hs1 hen
        obtain ⟨x', ex, rfl, hwx⟩ := Maps.keyOf_int_inv Try.underlying3 hkey
        cases ex
        have hold := HI.out.old x hlk
        have hdom := H.out.dom x hold.2
        obtain ⟨v, hv, hf⟩ := (H.out.sure x hdom.1 hdom.2).1 hold.2
        obtain rfl : d = .held c := by unfold heldR at hR; injection hR with hR; injection hR with hR _; exact hR.symm
        obtain rfl : c = v := by
          have e1 := hat Z0
          rw [hold.1, hv] at e1
          injection e1 with e1
          exact e1.symm
        have n1 := noC_iter HI.out.rg
        have hf1 : Fil w1 F c (S x) := (hf.below HI.out.bl (fun _ h => h)).off hg1 n1
        have hkb := HI.out.blk.off hg1 n1
        obtain ⟨gc, capc, ev, _, _⟩ := hf1.reads
        subst ev
        have HFX := hide hf1
        have HK1 := hide hkb
        have HRG := hide hrg1
        have HGR := hide hg1
        have HLK := hide hlk
        have HHAS := hide (show Maps.has D' (kl x) = true by rw [HI.out.has x]; exact hold.2)
        have HDOM := hide hdom
        have HLT := hide hlt
        clear hkey hlk hR hat hrg1 hlt hg1 hwx hold hdom hv hf hf1 n1 kx qx zx hkb
        go_wp2
        refine wp_region_stage (by kernel_rfl) (by kernel_rfl) 46 2
          [⟨some 38, false, 0, 1, fun _ v _ => v = .pointer (some ⟨bc, 0, none⟩)⟩,
           ⟨some 39, false, 0, 1, fun _ v _ => v = .pointer (some ⟨bc, 0, none⟩)⟩,
           ⟨some 40, false, 0, 1, fun _ v _ => v = .pointer (some ⟨bc, 3, none⟩)⟩,
           ⟨some 41, false, 0, 1, fun _ v _ => v = .map (some mm)⟩,
           ⟨some 42, false, 0, 1, fun _ v _ => v = .int .i64 x⟩,
           ⟨some 43, false, 0, 0, fun _ v _ => v = .slice (some ⟨gc, 0, none⟩) 512 capc⟩,
           ⟨some 44, true, 0, 0, fun st v w' => st = 1 → ∃ g' c', v = .slice (some ⟨g', 0, none⟩) 512 c' ∧ Fil w' (fun j => w1.heap.size ≤ j) v (S x)⟩,
           ⟨none, true, 1, 1, fun _ _ _ => True⟩] (fun st w' => (st ≤ 1 → Below w1.heap.size w1 w') ∧ (st = 2 → ∃ D2, CpI w w' out left size S us us' D n bc mm ri v4 (fun z => lft z && !z.sameKey (kl x)) cnt1 D2)) (fun _ w w' => True) [38, 39, 40, 41, 42, 43, 44] rfl (by kernel_rfl) rfl ?g0 ?keep ?steps ?fin
        case keep =>
          intro e he s v w w' hm hsM ht hv
          simp only [List.mem_cons, List.not_mem_nil, or_false] at he
          rcases he with rfl | rfl | rfl | rfl | rfl | rfl | rfl | rfl
          all_goals first | exact hv | (intro h3; have := hm rfl; simp only [] at this; omega)
        case steps =>
          refine ⟨?_, ?_, ?_, ?_, ?_, ?_, ?_, ?_, trivial⟩
          · intro st hlo hhi ac w3 hg hG hd K hK
            dsimp only at hlo hhi hG hK
            exact op_move _ rfl (hK _ (hg.kp 3 (by simp)))
          · intro st hlo hhi ac w3 hg hG hd K hK
            dsimp only at hlo hhi hG hK
            have f0 := hd ⟨0, .data⟩ (by simp) rfl _ rfl _ rfl
            (try simp [Act.eval] at f0)
            go_simp
            exact hK _ rfl
          · intro st hlo hhi ac w3 hg hG hd K hK
            dsimp only at hlo hhi hG hK
            have f1 := hd ⟨1, .data⟩ (by simp) rfl _ rfl _ rfl
            (try simp [Act.eval] at f1)
            go_simp
            exact hK _ rfl
          · intro st hlo hhi ac w3 hg hG hd K hK
            dsimp only at hlo hhi hG hK
            have kk := HK1.out.below (hG.1 hhi) HK1.out.lt
            have k0 := kk.cell 3
            have zz := kk.lt
            simp [dk] at k0
            clear kk
            have f2 := hd ⟨2, .data⟩ (by simp) rfl _ rfl _ rfl
            (try simp [Act.eval] at f2)
            go_simp
            exact hK _ rfl
          · intro st hlo hhi ac w3 hg hG hd K hK
            dsimp only at hlo hhi hG hK
            exact op_move _ rfl (hK _ (hg.kp 4 (by simp)))
          · intro st hlo hhi ac w3 hg hG hd K hK
            dsimp only at hlo hhi hG hK
            exact op_move _ rfl (hK _ (hg.kp 5 (by simp)))
          · intro ac w3 hg hG hd K hK
            dsimp only [Nat.zero_add, Nat.reduceAdd] at hG hK
            have f5 := hd ⟨5, .data⟩ (by simp) rfl _ rfl _ rfl
            have HGG := hide hG
            clear hG
            simp [Act.eval] at f5
            go_simp
            (refine (fil_clone (HFX.out.below (HGG.out.1 (by decide)) (fun _ h => h))).mono ?_)
            rintro e w4 ⟨g', c', rfl, h4, hb4⟩
            have hb1 := (HGG.out.1 (by decide))
            exact hK (.slice (some ⟨g', 0, none⟩) 512 c') w4 trivial (And.intro (fun _ => hb1.trans (hb4.mono hb1.size)) (fun h => absurd h (by decide))) (fun _ => ⟨g', c', rfl, h4.keep (fun _ _ => rfl) (fun j hj => Nat.le_trans hb1.size hj)⟩)
          · intro ac w3 hg hG hd K hK
            dsimp only [Nat.zero_add, Nat.reduceAdd] at hG hK
            have f3 := hd ⟨3, .data⟩ (by simp) rfl _ rfl _ rfl
            have f4 := hd ⟨4, .data⟩ (by simp) rfl _ rfl _ rfl
            obtain ⟨g', c', f6, hf6⟩ := hd ⟨6, .data⟩ (by simp) rfl _ rfl _ rfl rfl
            have hb1 := hG.1 (by decide)
            have hrb : w3.ranges Try.prog 3 heldR mm ri n D' (fun z => lft z && !z.sameKey (kl x)) cnt1 := HRG.out.kept (row := none) ⟨hb1.os, hb1.tape, hb1.output, hb1.size, fun j hj _ => hb1.block j hj⟩ (by simp) (by simp)
            refine wp_mapUpdate_ranges _ _ _ _ 64 rfl 3 31 keyed Try.underlying64 heldR mm ri n D' _ cnt1 f3 hrb (by unfold maxLen; omega) _ _ (kl x) f4 f6 (Maps.keyOf_int_mk Try.underlying3 (wf_key (by have := HDOM.out; have := H.out.hs; omega))) _ [] rfl HHAS.out ?_
            intro w6 hr6 hg6 hs6
            rw [f6] at hf6
            exact hK undef w6 trivial (And.intro (fun h => absurd h (by decide)) (fun _ => ⟨_, HI.out.step HLK.out HRG.out HGR.out hb1 (hf6.keep (fun _ _ => rfl) (fun j hj => by have := HI.out.bl.size; have := HGR.out.size; omega)) hr6 hg6⟩)) trivial
        case g0 => exact And.intro (fun _ => (Below.refl _ _).drew) (fun h => absurd h (by decide))
        case fin =>
          intro f w6 hG hall
          obtain ⟨D2, hD2⟩ := hG.2 rfl
          have HI2 := hide hD2
          clear hG hall hD2
          simp only [fillF, List.map_cons, List.map_nil, List.foldl_cons, List.foldl_nil, Act.put, List.setIfInBounds_toArray, List.set_cons_zero, List.set_cons_succ]
          go_wp2
          go_roundw
          case rel => exact ⟨_, _, _, HI2⟩
          case measure => rw [HI2.out.rg.left_eq, HI.out.rg.left_eq]; exact HLT.out
end Go.Proofs.Ythlgkhnkcjihiaa
