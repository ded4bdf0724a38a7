/- The sectors' disk: Write, whatever it answers. -/
import Derived.Test.YtddcmockdomonaaPgF
namespace Go.Proofs.Ytddcmockdomonaa
set_option linter.unusedSimpArgs false
set_option linter.unusedVariables false
open Go.RowKit
def wrDo (out : Bool) (size at_ : Int) (k : Nat) : Bool := faultE out size at_ == 0 && k == 512
def wrE (out : Bool) (left size at_ : Int) (k : Nat) : Int := if faultE out size at_ = 0 then (if k = 512 then (if burnO out left then 15 else 0) else 1) else faultE out size at_
def wrOut (out : Bool) (left size at_ : Int) (k : Nat) : Bool := if wrDo out size at_ k then burnO out left else out
def wrLeft (out : Bool) (left size at_ : Int) (k : Nat) : Int := if wrDo out size at_ k then burnL left else left
def wrL (out : Bool) (left size at_ : Int) (c : Cn) (k : Nat) (L : List (Int × Cn)) : List (Int × Cn) := if wrDo out size at_ k && !burnO out left then L ++ [(at_, c)] else L
theorem Sec.more {w : World} {F : Nat → Prop} {b : Nat} {out : Bool} {left size : Int} {S : Int → Cn} {L : List (Int × Cn)} {N N' : Nat} (h : Sec w F b out left size S L N) (h1 : N ≤ N') (h2 : N' ≤ 100000) : Sec w F b out left size S L N' := by
  obtain ⟨m, u, n, D, us, h⟩ := h
  exact ⟨m, u, n, D, us, { h with hn := Nat.le_trans h.hn h1, hN := by omega }⟩
theorem faultE_cases (out : Bool) (size at_ : Int) : faultE out size at_ = 0 ∨ (faultE out size at_ = 1) ∨ (faultE out size at_ = 15) := by
  unfold faultE; split <;> (try split) <;> (try split) <;> simp
set_option maxRecDepth 100000 in
set_option maxHeartbeats 1000000 in
theorem sec_write_fault {w : World} {F : Nat → Prop} {b : Nat} {out : Bool} {left size : Int} {S : Int → Cn} {L : List (Int × Cn)} {N m : Nat} {u : Value} {n : Nat} {D : DataW Value} {us : List UW} (h : SecG w F b out left size S L N m u n D us)
    (at_ : Int) (v : Value) (ha : faultE out size at_ ≠ 0) :
    Calls Try.prog 31 #[.pointer (some ⟨b, 0, none⟩), .int .i64 at_, v] w fun e w' => e = .returned (.int .i64 (faultE out size at_)) ∧ SecG w' F b out left size S L N m u n D us ∧ Below w.heap.size w w' := by
  have H := hide h
  clear h
  obtain ⟨E, hE⟩ : ∃ E, faultE out size at_ = E := ⟨_, rfl⟩
  have HE := hide hE
  have d : (E == 0) = false := by rw [hE] at ha; simpa using ha
  rw [hE]
  clear ha hE
  go_enter Try.func31, Try.ntmps31
  go_wp2_with (go_at_call 40; (refine (sec_fault at_ H.out).mono ?_); rintro e w1 ⟨rfl, h1, hb1⟩; rw [HE.out]; have H1 := hide h1; have HB1 := hide hb1; clear h1 hb1)
  go_ret
  exact ⟨rfl, H1.out, HB1.out⟩
set_option maxRecDepth 100000 in
set_option maxHeartbeats 1000000 in
theorem sec_write_len {w : World} {F : Nat → Prop} {b : Nat} {out : Bool} {left size : Int} {S : Int → Cn} {L : List (Int × Cn)} {N m : Nat} {u : Value} {n : Nat} {D : DataW Value} {us : List UW} (h : SecG w F b out left size S L N m u n D us)
    (at_ : Int) (A : Option Addr) (k cap : Nat) (ha : faultE out size at_ = 0) (hk : k ≠ 512) :
    Calls Try.prog 31 #[.pointer (some ⟨b, 0, none⟩), .int .i64 at_, .slice A k cap] w fun e w' => e = .returned (.int .i64 1) ∧ SecG w' F b out left size S L N m u n D us ∧ Below w.heap.size w w' := by
  have H := hide h
  clear h
  have HE := hide ha
  have d : ((k : Int) == 512) = false := by simp; omega
  clear ha hk
  go_enter Try.func31, Try.ntmps31
  go_wp2_with (go_at_call 40; (refine (sec_fault at_ H.out).mono ?_); rintro e w1 ⟨rfl, h1, hb1⟩; rw [HE.out]; have H1 := hide h1; have HB1 := hide hb1; clear h1 hb1)
  go_ret
  exact ⟨rfl, H1.out, HB1.out⟩
set_option maxRecDepth 100000 in
set_option maxHeartbeats 1000000 in
theorem sec_write_burn {w : World} {F : Nat → Prop} {b : Nat} {out : Bool} {left size : Int} {S : Int → Cn} {L : List (Int × Cn)} {N m : Nat} {u : Value} {n : Nat} {D : DataW Value} {us : List UW} (h : SecG w F b out left size S L N m u n D us)
    (at_ : Int) (A : Option Addr) (cap : Nat) (ha : faultE out size at_ = 0) (hk : burnO out left = true) :
    Calls Try.prog 31 #[.pointer (some ⟨b, 0, none⟩), .int .i64 at_, .slice A 512 cap] w fun e w' => e = .returned (.int .i64 15) ∧ SecG w' F b true (burnL left) size S L N m u n D us ∧ Fr F w w' := by
  have H := hide h
  clear h
  have HE := hide ha
  have HK := hide hk
  clear ha hk
  go_enter Try.func31, Try.ntmps31
  go_wp2_with (first | (go_at_call 40; (refine (sec_fault at_ H.out).mono ?_); rintro e w1 ⟨rfl, h1, hb1⟩; rw [HE.out]; have H1 := hide h1; have HB1 := hide hb1; clear h1 hb1) | (go_at_call 45; (refine (sec_burn H1.out).mono ?_); rintro e w2 ⟨rfl, h2, hf2⟩; rw [HK.out] at h2 ⊢; have H2 := hide h2; have HF2 := hide hf2; clear h2 hf2))
  go_ret
  exact ⟨rfl, H2.out, (Fr.of_below (F := F) HB1.out).trans (Fr.of_grown (F := F) HF2.out (fun k hk => by injection hk with hk; subst hk; exact H.out.fb)) (fun _ _ h => h)⟩
theorem sec_write {w : World} {F : Nat → Prop} {b : Nat} {out : Bool} {left size : Int} {S : Int → Cn} {L : List (Int × Cn)} {N : Nat} (h : Sec w F b out left size S L N)
    (at_ : Int) (c : Cn) (g k cap : Nat) (G : Nat → Prop) (hv : k = 512 → Fil w G (.slice (some ⟨g, 0, none⟩) 512 cap) c) (hN : N < 100000) :
    Calls Try.prog 31 #[.pointer (some ⟨b, 0, none⟩), .int .i64 at_, .slice (some ⟨g, 0, none⟩) k cap] w fun e w' => e = .returned (.int .i64 (wrE out left size at_ k)) ∧
      (∃ F', Sec w' F' b (wrOut out left size at_ k) (wrLeft out left size at_ k) size S (wrL out left size at_ c k L) (N + 1) ∧ ∀ j, F' j → F j ∨ w.heap.size ≤ j) ∧ Fr F w w' := by
  obtain ⟨m, u, n, D, us, h⟩ := h
  unfold wrE wrOut wrLeft wrL wrDo
  by_cases ha : faultE out size at_ = 0
  · by_cases hk : k = 512
    · subst hk
      cases hb : burnO out left
      · refine (sec_write_ok h at_ c _ G (hv rfl) ha hb hN).mono ?_
        rintro e w' ⟨rfl, h1, h2⟩
        simp only [ha, if_true, BEq.rfl, Bool.and_self, Bool.not_false, Bool.false_eq_true, if_false]
        exact ⟨trivial, h1, h2⟩
      · refine (sec_write_burn h at_ (some ⟨g, 0, none⟩) cap ha hb).mono ?_
        rintro e w' ⟨rfl, h1, h2⟩
        simp only [ha, if_true, BEq.rfl, Bool.and_self, Bool.not_true, Bool.and_false, Bool.false_eq_true, if_false]
        exact ⟨trivial, ⟨F, Sec.more ⟨m, u, n, D, us, h1⟩ (by omega) (by omega), fun _ hj => .inl hj⟩, h2⟩
    · refine (sec_write_len h at_ (some ⟨g, 0, none⟩) k cap ha hk).mono ?_
      rintro e w' ⟨rfl, h1, h2⟩
      have hk' : (k == 512) = false := by simpa using hk
      simp only [ha, if_true, hk, if_false, hk', BEq.rfl, Bool.and_false, Bool.false_and, Bool.false_eq_true]
      exact ⟨trivial, ⟨F, Sec.more ⟨m, u, n, D, us, h1⟩ (by omega) (by omega), fun _ hj => .inl hj⟩, Fr.of_below h2⟩
  · refine (sec_write_fault h at_ _ ha).mono ?_
    rintro e w' ⟨rfl, h1, h2⟩
    have ha' : (faultE out size at_ == 0) = false := by simpa using ha
    simp only [ha, if_false, ha', Bool.false_and, Bool.false_eq_true]
    exact ⟨trivial, ⟨F, Sec.more ⟨m, u, n, D, us, h1⟩ (by omega) (by omega), fun _ hj => .inl hj⟩, Fr.of_below h2⟩
end Go.Proofs.Ytddcmockdomonaa
