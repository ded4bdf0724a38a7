/- The roots that stand on a disk, and what Open makes of them. -/
import Derived.Test.YtddcmockdomonaaPgZc
namespace Go.Proofs.Ytddcmockdomonaa
set_option linter.unusedSimpArgs false
set_option linter.unusedVariables false
open Go.RowKit
/-- What stands on the disk is a root's number and page, and an elder one at most. -/
def RI (n : Nat) (C : Int → Cn) (q r : Nat) : Prop :=
  (r = 0 ∨ pgB n (r : Int) = true) ∧ ((0 < q ∧ supC (C ((q % 2 : Nat) : Int)) = true ∧ supS (C ((q % 2 : Nat) : Int)) = q ∧ supR (C ((q % 2 : Nat) : Int)) = r) ∨ (q = 0 ∧ r = 0 ∧ supC (C 0) = false)) ∧
  (supC (C (((q + 1) % 2 : Nat) : Int)) = true → supS (C (((q + 1) % 2 : Nat) : Int)) < q)
theorem RI.zero (n : Nat) : RI n (fun _ => zC) 0 0 := ⟨.inl rfl, .inr ⟨rfl, rfl, zero_sup⟩, fun h => by rw [zero_sup] at h; cases h⟩
/-- Only the first two sectors matter. -/
theorem RI.same {n : Nat} {C C' : Int → Cn} {q r : Nat} (h : RI n C q r) (h0 : C' 0 = C 0) (h1 : C' 1 = C 1) : RI n C' q r := by
  have hk : ∀ k : Nat, C' ((k % 2 : Nat) : Int) = C ((k % 2 : Nat) : Int) := fun k => by
    rcases Nat.mod_two_eq_zero_or_one k with e | e <;> rw [e]
    · exact h0
    · exact h1
  unfold RI at h ⊢
  rw [hk, hk, h0]
  exact h
theorem opnF_take {n : Nat} {a : Int × Int} {c : Cn} {q r : Nat} (hs : supC c = true) (h1 : supS c = q) (h2 : supR c = r) (ha : a.1 < (q : Int)) (hr : r = 0 ∨ pgB n (r : Int) = true) : opnF n a c = ((q : Int), (r : Int)) := by
  unfold opnF
  rw [hs, h1, h2]
  have d : decide (a.1 < (q : Int)) = true := by simpa using ha
  rw [d]
  have : ((r : Int) == 0 || pgB n (r : Int)) = true := by
    rcases hr with rfl | hr
    · rfl
    · rw [hr, Bool.or_true]
  rw [this]
  rfl
theorem opnF_keep {n : Nat} {a : Int × Int} {c : Cn} (h : supC c = true → (supS c : Int) ≤ a.1) : opnF n a c = a := by
  unfold opnF
  cases hs : supC c
  · rfl
  · have d : decide (a.1 < (supS c : Int)) = false := by simpa using h hs
    rw [d]
    rfl
theorem RI.opn {n : Nat} {S : Int → Cn} {L : List (Int × Cn)} {q r : Nat} (h : RI n (nowC S L) q r) : opnK n S L 2 = ((q : Int), (r : Int)) := by
  show opnF n (opnF n (0, 0) (nowC S L 0)) (nowC S L 1) = _
  obtain ⟨hr, h1, h2⟩ := h
  have z0 : ((0 : Nat) : Int) = 0 := rfl
  have z1 : ((1 : Nat) : Int) = 1 := rfl
  rcases h1 with ⟨hq, h1, h3, h4⟩ | ⟨rfl, rfl, h1⟩
  · rcases Nat.mod_two_eq_zero_or_one q with e | e
    · have e' : (q + 1) % 2 = 1 := by omega
      rw [e, z0] at h1 h3 h4
      rw [e', z1] at h2
      have e1 := opnF_take (a := (0, 0)) h1 h3 h4 (by simp; omega) hr
      rw [e1]
      exact opnF_keep (fun h => by have := h2 h; simp; omega)
    · have e' : (q + 1) % 2 = 0 := by omega
      rw [e, z1] at h1 h3 h4
      rw [e', z0] at h2
      refine opnF_take h1 h3 h4 ?_ hr
      unfold opnF
      split
      · next h =>
        simp only [Bool.and_eq_true] at h
        have := h2 h.1.1
        simp; omega
      · simp; omega
  · have e1 : opnF n (0, 0) (nowC S L 0) = (0, 0) := opnF_keep (fun h => by rw [h1] at h; cases h)
    rw [e1]
    exact opnF_keep (fun h => by have := h2 h; omega)
/-- A root is written. -/
theorem RI.flip {n : Nat} {C : Int → Cn} {q r r' : Nat} (h : RI n C q r) (hq : q + 1 < 4000000000) (hr : r' < 4294967296) (hp : r' = 0 ∨ pgB n (r' : Int) = true) : RI n (upd C (((q + 1) % 2 : Nat) : Int) (rootC (q + 1) r')) (q + 1) r' := by
  have hs := root_sup (seq := q + 1) (root := r') (by omega) hr
  have e2 : (q + 1 + 1) % 2 = q % 2 := by omega
  have hne : ((q % 2 : Nat) : Int) ≠ (((q + 1) % 2 : Nat) : Int) := by omega
  refine ⟨hp, .inl ⟨by omega, ?_⟩, ?_⟩
  · unfold upd
    rw [if_pos rfl]
    exact hs
  · rw [e2]
    unfold upd
    rw [if_neg hne]
    intro hc
    rcases h.2.1 with ⟨_, _, h3, _⟩ | ⟨rfl, _, h1⟩
    · omega
    · rw [show ((0 % 2 : Nat) : Int) = 0 from rfl, h1] at hc
      cases hc
theorem upd_far {C : Int → Cn} {a k : Int} {c : Cn} (h : k ≠ a) : upd C a c k = C k := by unfold upd; rw [if_neg h]
theorem room_flip (st : Cn) : roomN st ≤ roomN (st.map flipU) := by
  unfold roomN
  rw [← List.map_drop, List.countP_map]
  refine List.countP_mono_left (fun x _ h => ?_)
  have h0 : x.toNat = 0 := by simpa using h
  simp only [Function.comp, flipU, h0]
  simp [h0]
theorem set_getD (st : Cn) (a : Nat) (x : UInt8) (h : a < st.length) : (st.set a x).getD a 0 = x := by
  rw [List.getD_eq_getElem?_getD, List.getElem?_set_self h]
  rfl
theorem root_ok_new {n : Nat} {st : Cn} {a : Nat} (h2 : 2 ≤ a) (hn : a < n) (hf : isFree st a) : rootOk n (st.set a 1) a = true := by
  unfold rootOk
  rw [set_getD st a 1 hf.1]
  have : pgB n (a : Int) = true := by unfold pgB; simp; omega
  rw [this]
  simp
theorem al_below (w : World) (o : Obj) : Below w.heap.size w (w.alloc o) := (Below.refl w.heap.size w).alloc (Nat.le_refl _) o
theorem NB.one (w : World) (x : Int) : NB (w.alloc (.cells #[.int .i64 x] TI)) (w.alloc (.cells #[.int .i64 x] TI)).heap.size (some ⟨w.heap.size, 0, none⟩) 1 [x] := NB.of_blk (xs := [x]) (Blk.new w TI #[.int .i64 x]) (by simp)
theorem far_new {w : World} {g : Nat} (hg : g < w.heap.size) : ∀ ad, (some ⟨w.heap.size, 0, none⟩ : Option Addr) = some ad → ad.block ≠ g := by
  intro ad e
  injection e with e
  subst e
  exact fun h => by simp only [] at h; omega
theorem flip_no_limit {w : World} {F : Nat → Prop} {pb sb db n : Nat} {S : Int → Cn} {L : List (Int × Cn)} {N : Nat} {frm : Int} {st : Cn} {e : Ending} {w' : World} {q r : Nat} (h : FlipR w F pb sb db n 0 S L N q frm st r e w') : e = .returned (.int .i64 0) ∧ ∃ F', Pg w' F' pb sb db n 0 (upd (lastS allT S L) ((q + 1) % 2 : Nat) (rootC (q + 1) r)) [] (N + 1) ((q + 1 : Nat) : Int) r frm (st.map flipU) ∧ Grw F w F' := by
  rcases h with ⟨h, _⟩ | h
  · omega
  · exact h
theorem cs8_one_k (k : Nat) (hk : k < 256) : (cs8 [UInt8.ofNat k]).toArray = #[.int .u8 (k : Int)] := by
  unfold cs8 u8v
  simp
  omega
end Go.Proofs.Ytddcmockdomonaa
