/- The document's disk: Write whatever it answers, Barrier, Crash. -/
import Derived.Test.YthlgkhnkcjihiaaSecN
namespace Go.Proofs.Ythlgkhnkcjihiaa
set_option linter.unusedSimpArgs false
set_option linter.unusedVariables false
open Go.RowKit
section
variable {w : World} {F : Nat → Prop} {b : Nat} {size : Int} {LG : List (Int × Int)} {sure : Nat} {left : Int} {out : Bool} {N : Nat}
theorem fault_out {out : Bool} {size at_ : Int} (h : faultE out size at_ = 0) : out = false := by
  unfold faultE at h; cases out
  · rfl
  · simp at h
set_option maxRecDepth 100000 in
set_option maxHeartbeats 1000000 in
theorem ref_write_fault {u : Value} {us : List UW} (h : RefG w F b size LG sure left out N u us) (at_ : Int) (v : Value) (ha : faultE out size at_ ≠ 0) :
    Calls Try.prog 34 #[.pointer (some ⟨b, 0, none⟩), .int .i64 at_, v] w fun e w' => e = .returned (.int .i64 (faultE out size at_)) ∧ RefG w' F b size LG sure left out N u us ∧ Below w.heap.size w w' := by
  have H := hide h
  clear h
  obtain ⟨E, hE⟩ : ∃ E, faultE out size at_ = E := ⟨_, rfl⟩
  have HE := hide hE
  have d : (E == 0) = false := by rw [hE] at ha; simpa using ha
  rw [hE]
  clear ha hE
  go_enter Try.func34, Try.ntmps34
  go_wp2_with (go_at_call 39; (refine (rfault_any b out left size at_ sure u w H.out.blk).mono ?_); rintro e w1 ⟨rfl, hb1⟩; rw [HE.out]; have H1 := hide (H.out.below hb1); have HB1 := hide hb1; clear hb1)
  go_ret
  exact ⟨rfl, H1.out, HB1.out⟩
set_option maxRecDepth 100000 in
set_option maxHeartbeats 1000000 in
theorem ref_write_len {u : Value} {us : List UW} (h : RefG w F b size LG sure left out N u us) (at_ : Int) (A : Option Addr) (k cap : Nat) (ha : faultE out size at_ = 0) (hk : k ≠ 512) :
    Calls Try.prog 34 #[.pointer (some ⟨b, 0, none⟩), .int .i64 at_, .slice A k cap] w fun e w' => e = .returned (.int .i64 1) ∧ RefG w' F b size LG sure left out N u us ∧ Below w.heap.size w w' := by
  have H := hide h
  clear h
  have HE := hide ha
  have d : ((k : Int) == 512) = false := by simp; omega
  clear ha hk
  go_enter Try.func34, Try.ntmps34
  go_wp2_with (go_at_call 39; (refine (rfault_any b out left size at_ sure u w H.out.blk).mono ?_); rintro e w1 ⟨rfl, hb1⟩; rw [HE.out]; have H1 := hide (H.out.below hb1); have HB1 := hide hb1; clear hb1)
  go_ret
  exact ⟨rfl, H1.out, HB1.out⟩
set_option maxRecDepth 100000 in
set_option maxHeartbeats 1000000 in
theorem ref_write_burn {u : Value} {us : List UW} (h : RefG w F b size LG sure left false N u us) (at_ : Int) (A : Option Addr) (cap : Nat) (ha : faultE false size at_ = 0) (hk : burnO false left = true) :
    Calls Try.prog 34 #[.pointer (some ⟨b, 0, none⟩), .int .i64 at_, .slice A 512 cap] w fun e w' => e = .returned (.int .i64 15) ∧ RefG w' F b size LG sure (burnL left) true N u us ∧ Fr F w w' := by
  have H := hide h
  clear h
  have HE := hide ha
  have HK := hide hk
  clear ha hk
  go_enter Try.func34, Try.ntmps34
  go_wp2_with (first | (go_at_call 39; (refine (rfault_any b false left size at_ sure u w H.out.blk).mono ?_); rintro e w1 ⟨rfl, hb1⟩; rw [HE.out]; have H1 := hide (H.out.below hb1); have HB1 := hide hb1; clear hb1) | (go_at_call 32; (refine (rburns_any b left size sure u w1 H1.out.blk H1.out.hl).mono ?_); rintro e w2 ⟨rfl, h2, hf2⟩; rw [HK.out] at h2 ⊢; have h2 := H1.out.own hf2 h2 (burnL_ok H1.out.hl) H1.out.hsu; have H2 := hide h2; have HF2 := hide hf2; clear h2 hf2))
  go_ret
  exact ⟨rfl, H2.out, (Fr.of_below (F := F) HB1.out).trans (Fr.of_grown (F := F) HF2.out (fun k hk => by injection hk with hk; subst hk; exact H.out.fb)) (fun _ _ h => h)⟩
theorem ref_write (h : Ref w F b size LG sure left out N) (at_ c : Int) (g k cap : Nat) (G : Nat → Prop) (hv : k = 512 → Fil w G (.slice (some ⟨g, 0, none⟩) 512 cap) c) (hN : N < 200000) :
    Calls Try.prog 34 #[.pointer (some ⟨b, 0, none⟩), .int .i64 at_, .slice (some ⟨g, 0, none⟩) k cap] w fun e w' => e = .returned (.int .i64 (wrE out left size at_ k)) ∧
      (∃ F', Ref w' F' b size (wrL out left size at_ c k LG) sure (wrLeft out left size at_ k) (wrOut out left size at_ k) (N + 1) ∧ ∀ j, F' j → F j ∨ w.heap.size ≤ j) ∧ Fr F w w' := by
  obtain ⟨u, us, h⟩ := h
  unfold wrE wrOut wrLeft wrL wrDo
  by_cases ha : faultE out size at_ = 0
  · have ho := fault_out ha
    subst ho
    by_cases hk : k = 512
    · subst hk
      cases hb : burnO false left
      · refine (ref_write_ok h at_ c _ G (hv rfl) ha hb hN).mono ?_
        rintro e w' ⟨rfl, h1, h2⟩
        simp only [ha, if_true, BEq.rfl, Bool.and_self, Bool.not_false, Bool.false_eq_true, if_false]
        exact ⟨trivial, h1, h2⟩
      · refine (ref_write_burn h at_ (some ⟨g, 0, none⟩) cap ha hb).mono ?_
        rintro e w' ⟨rfl, h1, h2⟩
        simp only [ha, if_true, BEq.rfl, Bool.and_self, Bool.not_true, Bool.and_false, Bool.false_eq_true, if_false]
        exact ⟨trivial, ⟨F, Ref.more ⟨u, us, h1⟩ (by omega) (by omega), fun _ hj => .inl hj⟩, h2⟩
    · refine (ref_write_len h at_ (some ⟨g, 0, none⟩) k cap ha hk).mono ?_
      rintro e w' ⟨rfl, h1, h2⟩
      have hk' : (k == 512) = false := by simpa using hk
      simp only [ha, if_true, hk, if_false, hk', BEq.rfl, Bool.and_false, Bool.false_and, Bool.false_eq_true]
      exact ⟨trivial, ⟨F, Ref.more ⟨u, us, h1⟩ (by omega) (by omega), fun _ hj => .inl hj⟩, Fr.of_below h2⟩
  · refine (ref_write_fault h at_ _ ha).mono ?_
    rintro e w' ⟨rfl, h1, h2⟩
    have ha' : (faultE out size at_ == 0) = false := by simpa using ha
    simp only [ha, if_false, ha', Bool.false_and, Bool.false_eq_true]
    exact ⟨trivial, ⟨F, Ref.more ⟨u, us, h1⟩ (by omega) (by omega), fun _ hj => .inl hj⟩, Fr.of_below h2⟩
def baSure (out : Bool) (left : Int) (sure n : Nat) : Nat := if baOut out left then sure else n
set_option maxRecDepth 100000 in
set_option maxHeartbeats 1000000 in
theorem ref_barrier (h : Ref w F b size LG sure left out N) :
    Calls Try.prog 19 #[.pointer (some ⟨b, 0, none⟩)] w fun e w' => e = .returned (.int .i64 (baE out left)) ∧ Ref w' F b size LG (baSure out left sure LG.length) (baLeft out left) (baOut out left) N ∧ Fr F w w' := by
  obtain ⟨u, us, h⟩ := h
  obtain ⟨A, cap, rfl, _, hs⟩ := Ref.forms h
  have H := hide h
  have hll : us.length = LG.length := by rw [← h.hL]; simp
  have HLL := hide hll
  have kb := h.blk.cell
  have qb := h.blk.frozen
  have zb := h.blk.lt
  unfold rk at kb
  clear h hs hll
  unfold baSure baE baOut baLeft
  cases out
  · simp only [Bool.false_eq_true, if_false]
    cases hbo : burnO false left
    · simp only [Bool.false_eq_true, if_false]
      have HB := hide hbo
      clear hbo
      go_enter Try.func19, Try.ntmps19
      go_wp2_with (go_at_call 32; (refine (rburns_any b left size sure _ w H.out.blk H.out.hl).mono ?_); rintro e w2 ⟨rfl, h2, hf2⟩; rw [HB.out] at h2 ⊢; have k2 := h2.cell; have q2 := h2.frozen; have z2 := h2.lt; unfold rk at k2; have h2 := H.out.own hf2 h2 (burnL_ok H.out.hl) H.out.hsu; have H2 := hide h2; have HF2 := hide hf2; clear h2 hf2)
      go_ret
      have g1 := gby_set w2 b 2 (.int .i64 (us.length : Int))
      refine ⟨rfl, ⟨_, us, H2.out.own g1 ?_ H2.out.hl (Nat.le_refl _)⟩, (Fr.of_grown (F := F) HF2.out (fun k hk => by injection hk with hk; subst hk; exact H.out.fb)).trans (Fr.of_grown (F := F) g1 (fun k hk => by injection hk with hk; subst hk; exact H.out.fb)) (fun _ _ h => h)⟩
      have := H2.out.blk.set_ 2 (.int .i64 (us.length : Int))
      rw [HLL.out] at this ⊢
      exact this
    · simp only [if_true]
      have HB := hide hbo
      clear hbo
      go_enter Try.func19, Try.ntmps19
      go_wp2_with (go_at_call 32; (refine (rburns_any b left size sure _ w H.out.blk H.out.hl).mono ?_); rintro e w2 ⟨rfl, h2, hf2⟩; rw [HB.out] at h2 ⊢; have h2 := H.out.own hf2 h2 (burnL_ok H.out.hl) H.out.hsu; have H2 := hide h2; have HF2 := hide hf2; clear h2 hf2)
      go_ret
      exact ⟨rfl, ⟨_, us, H2.out⟩, Fr.of_grown (F := F) HF2.out (fun k hk => by injection hk with hk; subst hk; exact H.out.fb)⟩
  · simp only [if_true]
    go_enter Try.func19, Try.ntmps19
    go_wp2_with fail
    go_ret
    exact ⟨rfl, ⟨_, us, H.out⟩, Fr.refl _ _⟩
/-- What is left of a log by a crash. -/
def keepT (sure : Nat) (mask : Int) (i : Nat) : Bool := decide (i < sure) || maskT mask (i - sure)
def crashG {α : Type} (τ : Nat → Bool) (l : List α) : List α := (l.zipIdx.filter (fun p => τ p.2)).map Prod.fst
theorem crashG_succ {α : Type} (τ : Nat → Bool) (l : List α) {k : Nat} (hk : k < l.length) : crashG τ (l.take (k + 1)) = if τ k then crashG τ (l.take k) ++ [l[k]] else crashG τ (l.take k) := by
  unfold crashG
  rw [List.take_succ_eq_append_getElem hk, List.zipIdx_append, List.filter_append]
  have : (l.take k).length = k := by simp; omega
  cases h : τ k <;> simp [this, h]
theorem crashG_map {α β : Type} (τ : Nat → Bool) (f : α → β) (l : List α) : (crashG τ l).map f = crashG τ (l.map f) := by
  unfold crashG
  rw [List.zipIdx_map, List.filter_map, List.map_map, List.map_map]
  rfl
theorem crashG_mem {α : Type} (τ : Nat → Bool) (l : List α) : ∀ x ∈ crashG τ l, x ∈ l := by
  intro x hx
  unfold crashG at hx
  obtain ⟨p, hp, rfl⟩ := List.mem_map.1 hx
  exact List.fst_mem_of_mem_zipIdx (List.mem_filter.1 hp).1
theorem crashG_len {α : Type} (τ : Nat → Bool) (l : List α) : (crashG τ l).length ≤ l.length := by
  unfold crashG
  rw [List.length_map]
  exact Nat.le_trans (List.length_filter_le _ _) (by simp)
end
end Go.Proofs.Ythlgkhnkcjihiaa
