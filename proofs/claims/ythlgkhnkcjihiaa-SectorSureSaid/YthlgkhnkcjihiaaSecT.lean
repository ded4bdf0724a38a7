/- The sectors' laws: act 2; any act. -/
import Derived.Test.YthlgkhnkcjihiaaSecS
namespace Go.Proofs.Ythlgkhnkcjihiaa
set_option linter.unusedSimpArgs false
set_option linter.unusedVariables false
open Go.RowKit
/-- The answer's data: a slice of n bytes; where n is 512, a sector of c. -/
def DatV (n : Nat) (c : Int) (v : Value) (w : World) : Prop := ∃ g, v = .slice (some ⟨g, 0, none⟩) n n ∧ (n = 512 → Fil w (fun j => j = g) (.slice (some ⟨g, 0, none⟩) 512 n) c)
theorem wr_alike {s : SS} {r : RS} (h : s = r.ss) (size at_ : Int) (n : Nat) : wrE s.out s.left size at_ n = wrE r.out r.left size at_ n := by rw [h]; rfl
set_option maxRecDepth 100000 in
set_option maxHeartbeats 1000000 in
theorem act_2 {w : World} {b bw : Nat} {F G : Nat → Prop} {size : Int} {s : SS} {r : RS} {N : Nat} (h : Two w b bw F G size s r N) (hN : N < 99000) (at_ fill mask : Int) (odd : Bool) (hfl : 0 ≤ fill ∧ fill < 256) :
    Calls Try.prog 20 #[.pointer (some ⟨b, 0, none⟩), .pointer (some ⟨bw, 0, none⟩), .agg #[.int .i64 2, .int .i64 at_, .int .u8 fill, .bool odd, .int .u64 mask]] w (ActPost w b bw F G size s r N ⟨2, at_, fill, odd, mask⟩) := by
  obtain ⟨kind, hk⟩ : ∃ kind : Int, (2 : Int) = kind := ⟨_, rfl⟩
  rw [hk]
  have HT := hide h
  have HA := hide (h.below ((Below.refl w.heap.size w).alloc (Nat.le_refl _) (Obj.cells #[.int .i64 kind, .int .i64 at_, .int .u8 fill, .bool odd, .int .u64 mask] TA)))
  have HB0 := hide ((Below.refl w.heap.size w).alloc (Nat.le_refl _) (Obj.cells #[.int .i64 kind, .int .i64 at_, .int .u8 fill, .bool odd, .int .u64 mask] TA))
  have HK := hide (Blk.new w TA #[.int .i64 kind, .int .i64 at_, .int .u8 fill, .bool odd, .int .u64 mask])
  clear h
  have d1 : (kind == 1) = false := by simp; omega
  have d2 : (kind == 2) = true := by simp; omega
  have HKD := hide hk
  have HFL := hide hfl
  clear hk hfl
  obtain ⟨n, hn⟩ : ∃ n, dataN fill odd = n := ⟨_, rfl⟩
  have HNN := hide hn
  clear hn
  obtain ⟨w0, hw0⟩ : ∃ w0, w.alloc (Obj.cells #[.int .i64 kind, .int .i64 at_, .int .u8 fill, .bool odd, .int .u64 mask] TA) = w0 := ⟨_, rfl⟩
  have c00 : w0.cell? ⟨w.heap.size, 0, none⟩ = some (.int .i64 kind) := by rw [← hw0]; simp
  have z00 : w.heap.size < w0.heap.size := by rw [← hw0]; simp
  rw [hw0] at HA HB0 HK
  go_enter Try.func20, Try.ntmps20
  go_wp2_with fail
  clear c00 hw0
  refine wp_region_stage (by kernel_rfl) (by kernel_rfl) 97 4
    [⟨some 42, false, 0, 1, fun _ v _ => v = .pointer (some ⟨b, 0, none⟩)⟩,
     ⟨some 43, false, 0, 1, fun _ v _ => v = .pointer (some ⟨w.heap.size, 1, none⟩)⟩,
     ⟨some 44, false, 0, 1, fun _ v _ => v = .int .i64 at_⟩,
     ⟨some 45, false, 0, 0, fun _ v _ => v = .pointer (some ⟨w.heap.size, 2, none⟩)⟩,
     ⟨some 46, false, 0, 0, fun _ v _ => v = .int .u8 fill⟩,
     ⟨some 47, false, 0, 0, fun _ v _ => v = .pointer (some ⟨w.heap.size, 3, none⟩)⟩,
     ⟨some 48, false, 0, 0, fun _ v _ => v = .bool odd⟩,
     ⟨some 49, true, 0, 0, fun st v w' => st = 1 → DatV n fill v w'⟩,
     ⟨some 50, true, 1, 1, fun _ v _ => v = .int .i64 (wrE s.out s.left size at_ n)⟩,
     ⟨some 51, false, 0, 3, fun _ v _ => v = .pointer (some ⟨bw, 0, none⟩)⟩,
     ⟨some 52, false, 0, 3, fun _ v _ => v = .pointer (some ⟨w.heap.size, 1, none⟩)⟩,
     ⟨some 53, false, 0, 3, fun _ v _ => v = .int .i64 at_⟩,
     ⟨some 54, false, 0, 2, fun _ v _ => v = .pointer (some ⟨w.heap.size, 2, none⟩)⟩,
     ⟨some 55, false, 0, 2, fun _ v _ => v = .int .u8 fill⟩,
     ⟨some 56, false, 0, 2, fun _ v _ => v = .pointer (some ⟨w.heap.size, 3, none⟩)⟩,
     ⟨some 57, false, 0, 2, fun _ v _ => v = .bool odd⟩,
     ⟨some 58, true, 2, 2, fun st v w' => st = 3 → DatV n fill v w'⟩,
     ⟨some 59, true, 3, 3, fun _ v _ => v = .int .i64 (wrE r.out r.left size at_ n)⟩,
     ⟨some 60, false, 4, 4, fun _ v _ => v = .bool (wrE s.out s.left size at_ n == wrE r.out r.left size at_ n)⟩,
     ⟨some 6, false, 4, 4, fun _ v _ => v = .bool (wrE s.out s.left size at_ n == wrE r.out r.left size at_ n)⟩] (fun st w' => Blk w' w.heap.size TA #[.int .i64 kind, .int .i64 at_, .int .u8 fill, .bool odd, .int .u64 mask] ∧ (st ≤ 1 → Two w' b bw F G size s r N ∧ Below w0.heap.size w0 w') ∧ (2 ≤ st → st ≤ 3 → ∃ F1, Two w' b bw F1 G size ⟨wrOut s.out s.left size at_ n, wrLeft s.out s.left size at_ n, s.S, wrL s.out s.left size at_ fill n s.L⟩ r (N + 1) ∧ (∀ j, F1 j → F j ∨ w0.heap.size ≤ j) ∧ Fr F w0 w') ∧ (st = 4 → ∃ F1 G1, Two w' b bw F1 G1 size ⟨wrOut s.out s.left size at_ n, wrLeft s.out s.left size at_ n, s.S, wrL s.out s.left size at_ fill n s.L⟩ ⟨wrL r.out r.left size at_ fill n r.LG, r.sure, wrLeft r.out r.left size at_ n, wrOut r.out r.left size at_ n⟩ (N + 2) ∧ (∀ j, F1 j → F j ∨ w0.heap.size ≤ j) ∧ (∀ j, G1 j → G j ∨ w0.heap.size ≤ j) ∧ Fr (FG F G) w0 w')) (fun _ _ _ => True) [42, 43, 44, 45, 46, 47, 48, 49, 50, 51, 52, 53, 54, 55, 56, 57, 58, 59, 60, 6] rfl (by kernel_rfl) rfl ?g0 ?keep ?steps ?fin
  case keep =>
    intro e he s v w w' hm hsM ht hv
    simp only [List.mem_cons, List.not_mem_nil, or_false] at he
    rcases he with rfl | rfl | rfl | rfl | rfl | rfl | rfl | rfl | rfl | rfl | rfl | rfl | rfl | rfl | rfl | rfl | rfl | rfl | rfl | rfl
    all_goals first | exact hv | (intro h3; have := hm rfl; simp only [] at this; omega)
  case steps =>
    refine ⟨?_, ?_, ?_, ?_, ?_, ?_, ?_, ?_, ?_, ?_, ?_, ?_, ?_, ?_, ?_, ?_, ?_, ?_, ?_, ?_, trivial⟩
    · intro st hlo hhi ac w3 hg hG hd K hK
      dsimp only at hlo hhi hG hK
      exact op_move _ rfl (hK _ (hg.kp 0 (by simp)))
    · intro st hlo hhi ac w3 hg hG hd K hK
      dsimp only at hlo hhi hG hK
      have k5 := hg.kp 5 (by simp)
      (try simp [Act.eval] at k5)
      go_simp
      exact hK _ rfl
    · intro st hlo hhi ac w3 hg hG hd K hK
      dsimp only at hlo hhi hG hK
      have kk := hG.1.cell 1
      simp at kk
      have f1 := hd ⟨1, .data⟩ (by simp) rfl _ rfl _ rfl
      (try simp [Act.eval] at f1)
      go_simp
      exact hK _ rfl
    · intro st hlo hhi ac w3 hg hG hd K hK
      dsimp only at hlo hhi hG hK
      have k5 := hg.kp 5 (by simp)
      (try simp [Act.eval] at k5)
      go_simp
      exact hK _ rfl
    · intro st hlo hhi ac w3 hg hG hd K hK
      dsimp only at hlo hhi hG hK
      have kk := hG.1.cell 2
      simp at kk
      have f3 := hd ⟨3, .data⟩ (by simp) rfl _ rfl _ rfl
      (try simp [Act.eval] at f3)
      go_simp
      exact hK _ rfl
    · intro st hlo hhi ac w3 hg hG hd K hK
      dsimp only at hlo hhi hG hK
      have k5 := hg.kp 5 (by simp)
      (try simp [Act.eval] at k5)
      go_simp
      exact hK _ rfl
    · intro st hlo hhi ac w3 hg hG hd K hK
      dsimp only at hlo hhi hG hK
      have kk := hG.1.cell 3
      simp at kk
      have f5 := hd ⟨5, .data⟩ (by simp) rfl _ rfl _ rfl
      (try simp [Act.eval] at f5)
      go_simp
      exact hK _ rfl
    · intro ac w3 hg hG hd K hK
      dsimp only [Nat.zero_add, Nat.reduceAdd] at hG hK
      have f4 := hd ⟨4, .data⟩ (by simp) rfl _ rfl _ rfl
      have f6 := hd ⟨6, .data⟩ (by simp) rfl _ rfl _ rfl
      simp [Act.eval] at f4 f6
      go_simp
      (refine (data_any fill odd w3 HFL.out).mono ?_)
      rintro e w4 ⟨rfl, h4, hb4⟩
      rw [HNN.out] at h4 ⊢
      have hf4 : DatV n fill (.slice (some ⟨w3.heap.size, 0, none⟩) n n) w4 := ⟨_, rfl, fun e => by subst e; exact fil_data h4 HFL.out⟩
      have hT := (hG.2.1 (by decide))
      exact hK (.slice (some ⟨w3.heap.size, 0, none⟩) n n) w4 trivial (And.intro (hG.1.below hb4 hG.1.lt) (And.intro (fun _ => ⟨hT.1.below hb4, hT.2.trans (hb4.mono hT.2.size)⟩) (And.intro (fun h => absurd h (by decide)) (fun h => absurd h (by decide))))) (fun _ => hf4)
    · intro ac w3 hg hG hd K hK
      dsimp only [Nat.zero_add, Nat.reduceAdd] at hG hK
      have f0 := hd ⟨0, .data⟩ (by simp) rfl _ rfl _ rfl
      have f2 := hd ⟨2, .data⟩ (by simp) rfl _ rfl _ rfl
      obtain ⟨g, f7, hfil⟩ := hd ⟨7, .data⟩ (by simp) rfl _ rfl _ rfl rfl
      have hT := (hG.2.1 (by decide))
      have HG1 := hide hG.1
      simp [Act.eval] at f0 f2 f7
      clear hG
      go_simp
      (refine (sec_write hT.1.sec at_ fill g n n _ hfil (by omega)).mono ?_)
      rintro e w4 ⟨rfl, ⟨F1, h4, hF1⟩, hf4⟩
      exact hK (.int .i64 (wrE s.out s.left size at_ n)) w4 trivial (And.intro (fr_blk hf4 HG1.out (fun hg => absurd (HT.out.sec.lt _ hg) (by omega))) (And.intro (fun h => absurd h (by decide)) (And.intro (fun _ _ => ⟨F1, hT.1.left h4 hf4 hF1 (by omega) (by omega), fun j hj => (hF1 j hj).imp id (fun h => Nat.le_trans hT.2.size h), (Fr.of_below hT.2).trans hf4 (fun _ _ h => h)⟩) (fun h => absurd h (by decide))))) rfl
    · intro st hlo hhi ac w3 hg hG hd K hK
      dsimp only at hlo hhi hG hK
      exact op_move _ rfl (hK _ (hg.kp 1 (by simp)))
    · intro st hlo hhi ac w3 hg hG hd K hK
      dsimp only at hlo hhi hG hK
      have k5 := hg.kp 5 (by simp)
      (try simp [Act.eval] at k5)
      go_simp
      exact hK _ rfl
    · intro st hlo hhi ac w3 hg hG hd K hK
      dsimp only at hlo hhi hG hK
      have kk := hG.1.cell 1
      simp at kk
      have f10 := hd ⟨10, .data⟩ (by simp) rfl _ rfl _ rfl
      (try simp [Act.eval] at f10)
      go_simp
      exact hK _ rfl
    · intro st hlo hhi ac w3 hg hG hd K hK
      dsimp only at hlo hhi hG hK
      have k5 := hg.kp 5 (by simp)
      (try simp [Act.eval] at k5)
      go_simp
      exact hK _ rfl
    · intro st hlo hhi ac w3 hg hG hd K hK
      dsimp only at hlo hhi hG hK
      have kk := hG.1.cell 2
      simp at kk
      have f12 := hd ⟨12, .data⟩ (by simp) rfl _ rfl _ rfl
      (try simp [Act.eval] at f12)
      go_simp
      exact hK _ rfl
    · intro st hlo hhi ac w3 hg hG hd K hK
      dsimp only at hlo hhi hG hK
      have k5 := hg.kp 5 (by simp)
      (try simp [Act.eval] at k5)
      go_simp
      exact hK _ rfl
    · intro st hlo hhi ac w3 hg hG hd K hK
      dsimp only at hlo hhi hG hK
      have kk := hG.1.cell 3
      simp at kk
      have f14 := hd ⟨14, .data⟩ (by simp) rfl _ rfl _ rfl
      (try simp [Act.eval] at f14)
      go_simp
      exact hK _ rfl
    · intro ac w3 hg hG hd K hK
      dsimp only [Nat.zero_add, Nat.reduceAdd] at hG hK
      have f4 := hd ⟨13, .data⟩ (by simp) rfl _ rfl _ rfl
      have f6 := hd ⟨15, .data⟩ (by simp) rfl _ rfl _ rfl
      simp [Act.eval] at f4 f6
      go_simp
      (refine (data_any fill odd w3 HFL.out).mono ?_)
      rintro e w4 ⟨rfl, h4, hb4⟩
      rw [HNN.out] at h4 ⊢
      have hf4 : DatV n fill (.slice (some ⟨w3.heap.size, 0, none⟩) n n) w4 := ⟨_, rfl, fun e => by subst e; exact fil_data h4 HFL.out⟩
      obtain ⟨F1, hT, hF1, hfr⟩ := (hG.2.2.1 (by decide) (by decide))
      exact hK (.slice (some ⟨w3.heap.size, 0, none⟩) n n) w4 trivial (And.intro (hG.1.below hb4 hG.1.lt) (And.intro (fun h => absurd h (by decide)) (And.intro (fun _ _ => ⟨F1, hT.below hb4, hF1, hfr.trans (Fr.of_below hb4) (fun _ _ h => h)⟩) (fun h => absurd h (by decide))))) (fun _ => hf4)
    · intro ac w3 hg hG hd K hK
      dsimp only [Nat.zero_add, Nat.reduceAdd] at hG hK
      have f0 := hd ⟨9, .data⟩ (by simp) rfl _ rfl _ rfl
      have f2 := hd ⟨11, .data⟩ (by simp) rfl _ rfl _ rfl
      obtain ⟨g, f7, hfil⟩ := hd ⟨16, .data⟩ (by simp) rfl _ rfl _ rfl rfl
      obtain ⟨F1, hT, hF1, hfr⟩ := (hG.2.2.1 (by decide) (by decide))
      have HG1 := hide hG.1
      simp [Act.eval] at f0 f2 f7
      clear hG
      go_simp
      (refine (ref_write hT.ref at_ fill g n n _ hfil (by omega)).mono ?_)
      rintro e w4 ⟨rfl, ⟨G1, h4, hG1⟩, hf4⟩
      exact hK (.int .i64 (wrE r.out r.left size at_ n)) w4 trivial (And.intro (fr_blk hf4 HG1.out (fun hg => absurd (HT.out.ref.lt _ hg) (by omega))) (And.intro (fun h => absurd h (by decide)) (And.intro (fun _ h => absurd h (by decide)) (fun _ => ⟨F1, G1, hT.right h4 hf4 hG1 (by omega) (by omega), hF1, fun j hj => (hG1 j hj).imp id (fun h => Nat.le_trans hfr.size h), FG.tr (FG.l hfr) (FG.r hf4)⟩)))) rfl
    · intro st hlo hhi ac w3 hg hG hd K hK
      dsimp only at hlo hhi hG hK
      have f8 := hd ⟨8, .data⟩ (by simp) rfl _ rfl _ rfl
      have f17 := hd ⟨17, .data⟩ (by simp) rfl _ rfl _ rfl
      (try simp [Act.eval] at f8)
      (try simp [Act.eval] at f17)
      go_simp
      exact hK _ rfl
    · intro st hlo hhi ac w3 hg hG hd K hK
      dsimp only at hlo hhi hG hK
      exact op_assign _ rfl (hK _ (hd ⟨18, .data⟩ (by simp) rfl _ rfl _ rfl))
  case g0 => exact And.intro HK.out.drew (And.intro (fun _ => ⟨HA.out.below (Below.refl _ _).drew, (Below.refl _ _).drew⟩) (And.intro (fun h => absurd h (by decide)) (fun h => absurd h (by decide))))
  case fin =>
    intro f w5 hG hall
    have h6 := hall _ (List.mem_of_getElem? (i := 19) rfl) 6 rfl
    have HG := hide (hG.2.2.2 rfl)
    clear hall hG
    simp only [fillF, List.map_cons, List.map_nil, List.foldl_cons, List.foldl_nil, Act.put, List.setIfInBounds_toArray, List.set_cons_zero, List.set_cons_succ]
    rw [show f 6 = .bool (wrE s.out s.left size at_ n == wrE r.out r.left size at_ n) from h6]
    clear h6
    go_wp2
    go_ret
    have hk := HKD.out
    subst hk
    obtain ⟨F1, G1, hT, hF1, hG1, hfr⟩ := HG.out
    refine ⟨⟨_, rfl, fun e => by rw [wr_alike e]; simp⟩, ⟨F1, G1, ?_, fun j hj => (hF1 j hj).imp id (fun h => Nat.le_trans HB0.out.size h), fun j hj => (hG1 j hj).imp id (fun h => Nat.le_trans HB0.out.size h)⟩, FG.tr (Fr.of_below HB0.out) hfr⟩
    have hn := HNN.out
    subst hn
    exact hT
theorem act_any {w : World} {b bw : Nat} {F G : Nat → Prop} {size : Int} {s : SS} {r : RS} {N : Nat} (h : Two w b bw F G size s r N) (hN : N < 99000) (a : ActV) (ha : a.ok) :
    Calls Try.prog 20 #[.pointer (some ⟨b, 0, none⟩), .pointer (some ⟨bw, 0, none⟩), .agg #[.int .i64 a.kind, .int .i64 a.at_, .int .u8 a.fill, .bool a.odd, .int .u64 a.mask]] w (ActPost w b bw F G size s r N a) := by
  obtain ⟨kind, at_, fill, odd, mask⟩ := a
  obtain ⟨h1, h2, h3, h4⟩ := ha
  simp only at h1 h2 h3 h4 ⊢
  by_cases k1 : kind = 1
  · subst k1; exact act_1 h hN at_ fill mask odd
  by_cases k2 : kind = 2
  · subst k2; exact act_2 h hN at_ fill mask odd h3
  by_cases k3 : kind = 3
  · subst k3; exact act_3 h hN at_ fill mask odd
  by_cases k4 : kind = 4
  · subst k4
    by_cases k : at_ < 0
    · exact act_4neg h hN at_ fill mask odd k
    · exact act_4pos h hN at_ fill mask odd (by omega)
  by_cases k5 : kind = 5
  · subst k5; exact act_5 h hN at_ fill mask odd h4
  exact act_else h hN kind at_ fill mask odd k1 k2 k3 k4 k5
end Go.Proofs.Ythlgkhnkcjihiaa
