/- The pager's statements: a fresh pager, and what each statement asks first. -/
import Derived.Test.YtddcmockdomonaaPgZa
namespace Go.Proofs.Ytddcmockdomonaa
set_option linter.unusedSimpArgs false
set_option linter.unusedVariables false
open Go.RowKit
theorem add_off (g j : Nat) : (Addr.add ⟨g, 0, none⟩ j) = ⟨g, j, none⟩ := by unfold Addr.add; split <;> simp_all
theorem RB.of_blk {w : World} {g B : Nat} {l : Cn} (h : Blk w g T8 (cs8 l).toArray) (hB : g < B) : RB w B (some ⟨g, 0, none⟩) l.length l := by
  refine ⟨by rw [cs8_len]; omega, fun _ => ⟨_, rfl, hB, fun j u hu => ?_⟩⟩
  rw [add_off, h.cell, List.getElem?_toArray]
  exact hu
abbrev TI : TypeId := 3
theorem NB.of_blk {w : World} {g B : Nat} {xs : List Int} (h : Blk w g TI (xs.map (fun x => Value.int .i64 x)).toArray) (hB : g < B) : NB w B (some ⟨g, 0, none⟩) xs.length xs := by
  refine ⟨by rw [List.length_map]; omega, fun _ => ⟨_, rfl, hB, fun j u hu => ?_⟩⟩
  rw [add_off, h.cell, List.getElem?_toArray]
  exact hu
/-- A text of bytes. -/
def bstr (l : Cn) : Value := .string ⟨l.toArray⟩
theorem own_str {w : World} {base n : Nat} {v : Value} {l : Cn} (h : w.ownsRow base T8 1 v n (cs8 l)) (hn : n = l.length) : (convert 33 9 v).run Try.prog w = .ok (bstr l) w := by
  subst hn
  rcases h.2 with ⟨e, h0⟩ | ⟨g, cap, cur, e, _⟩
  · subst e
    have : l = [] := List.eq_nil_of_length_eq_zero h0
    subst this
    rw [run_convert_bytes_string w _ _ _ none 0 0 Try.underlying33 Try.underlying5 Try.underlying9]
    simp [Conv.bytesToString]
    rfl
  · subst e
    exact run_convert_bytes_back w 33 9 5 ⟨g, 0, none⟩ cap l Try.underlying33 Try.underlying5 Try.underlying9 (fun j hj => h.cells (g := g) rfl j _ (by unfold cs8; rw [List.getElem?_map, List.getElem?_eq_getElem hj]; rfl))
/-- One page's state turns: what that is for the room. -/
theorem room_set (st : Cn) (a : Nat) (x : UInt8) (h2 : 2 ≤ a) (hl : a < st.length) : roomN (st.set a x) + (if st[a].toNat == 0 then 1 else 0) = roomN st + (if x.toNat == 0 then 1 else 0) := by
  unfold roomN
  have hd : (st.set a x).drop 2 = (st.drop 2).set (a - 2) x := by
    apply List.ext_getElem?
    intro i
    rw [List.getElem?_drop, List.getElem?_set, List.getElem?_set, List.getElem?_drop, List.length_drop]
    by_cases h : a = 2 + i
    · rw [if_pos h, if_pos (by omega : a - 2 = i)]
      by_cases h' : a < st.length
      · rw [if_pos h', if_pos (by omega)]
      · rw [if_neg h', if_neg (by omega)]
    · rw [if_neg h, if_neg (by omega : ¬ a - 2 = i)]
  have hl2 : a - 2 < (st.drop 2).length := by rw [List.length_drop]; omega
  have hg : (st.drop 2)[a - 2]'hl2 = st[a] := by
    rw [List.getElem_drop]
    congr 1
    omega
  rw [hd, List.countP_set hl2, hg]
  have hc : (if st[a].toNat == 0 then 1 else 0) ≤ (st.drop 2).countP (fun y => y.toNat == 0) := by
    split
    · next h => exact List.countP_pos_iff.2 ⟨_, List.getElem_mem hl2, by rw [hg]; exact h⟩
    · omega

  omega
theorem zero_room (n : Nat) : roomN (zeroSt n) = n - 2 := by
  unfold roomN zeroSt
  rw [List.drop_replicate, List.countP_replicate]
  rfl
theorem zero_at {n a : Nat} (h : a < n) : (zeroSt n).getD a 0 = 0 := by
  unfold zeroSt
  rw [List.getD_eq_getElem?_getD, List.getElem?_replicate, if_pos h]
  rfl
theorem now_nil (S : Int → Cn) (k : Int) : nowC S [] k = S k := rfl
theorem opn_zero (n : Nat) : ∀ k, opnK n (fun _ => zC) [] k = (0, 0)
  | 0 => rfl
  | k + 1 => by
    unfold opnK
    rw [opn_zero n k, now_nil]
    unfold opnF
    rw [zero_sup]
    rfl
theorem opnK_root (n : Nat) (hn : 4 ≤ n) (S : Int → Cn) (L : List (Int × Cn)) : ∀ k, 0 ≤ (opnK n S L k).1 ∧ 0 ≤ (opnK n S L k).2 ∧ (opnK n S L k).2 < n
  | 0 => by unfold opnK; simp; omega
  | k + 1 => by
    have := opnK_root n hn S L k
    unfold opnK opnF
    split
    · next h =>
      simp only [Bool.and_eq_true, Bool.or_eq_true, beq_iff_eq] at h
      refine ⟨by simp, by simp, ?_⟩
      rcases h.2 with h | h
      · simp only [h]; omega
      · unfold pgB at h; simp at h ⊢; omega
    · exact this
section
variable {w w' : World} {F : Nat → Prop} {pb sb db n : Nat} {left : Int} {S : Int → Cn} {L : List (Int × Cn)} {N : Nat} {seq root frm : Int} {st : Cn}
/-- A disk is opened. -/
theorem popen_pg (h : Sec w F db false left (n : Int) S L N) (h4 : 4 ≤ n) (hs : (opnK n S L 2).1 < 4000000000) :
    Calls Try.prog 8 #[.pointer (some ⟨db, 0, none⟩)] w fun e w' => (∃ pb sb, e = .returned (.tuple #[.pointer (some ⟨pb, 0, none⟩), .int .i64 0]) ∧ w.heap.size ≤ pb ∧ w.heap.size ≤ sb ∧ Pg w' F pb sb db n left S L N (opnK n S L 2).1 (opnK n S L 2).2 0 (zeroSt n)) ∧ Below w.heap.size w w' := by
  refine (popen_ok h h4).mono ?_
  rintro e w' ⟨pb, sb, rfl, h1, h2, h3, h5, hb⟩
  have hr := opnK_root n h4 S L 2
  refine ⟨⟨pb, sb, rfl, h1, h2, { sec := h.below hb, blk := h3, sblk := h5, len := List.length_replicate, h4 := h4, np := fun hp => ?_, ns := fun hp => ?_, hsq := ⟨hr.1, hs⟩, hrt := hr.2, hfr := by omega }⟩, hb⟩
  · have := h.lt _ hp; omega
  · have := h.lt _ hp; omega
/-- A new disk is opened. -/
theorem popen_new (h : Sec w F db false 0 (n : Int) (fun _ => zC) [] 0) (h4 : 4 ≤ n) :
    Calls Try.prog 8 #[.pointer (some ⟨db, 0, none⟩)] w fun e w' => (∃ pb sb, e = .returned (.tuple #[.pointer (some ⟨pb, 0, none⟩), .int .i64 0]) ∧ w.heap.size ≤ pb ∧ w.heap.size ≤ sb ∧ Pg w' F pb sb db n 0 (fun _ => zC) [] 0 0 0 0 (zeroSt n)) ∧ Below w.heap.size w w' := by
  have := popen_pg h h4 (by rw [opn_zero]; omega)
  rw [opn_zero] at this
  exact this
theorem nil_len (w : World) : Calls Try.prog 23 #[.pointer none] w fun e w' => e = .returned (.int .i64 0) ∧ Below w.heap.size w w' := by
  go_enter Try.func23, Try.ntmps23
  go_wp2_with fail
  go_ret
  exact ⟨rfl, by (repeat (first | exact Below.refl _ _ | refine Below.drew ?_ | refine Below.setCell ?_ (by simp; try omega) _ | refine bal ?_ _))⟩
set_option maxRecDepth 100000 in
theorem popen_nil (w : World) : Calls Try.prog 8 #[.pointer none] w fun e w' => e = .returned (.tuple #[.pointer none, .int .i64 1]) ∧ Below w.heap.size w w' := by
  go_enter Try.func8, Try.ntmps8
  go_wp2_with (go_at_call 23; (refine (nil_len w).mono ?_); rintro e w1 ⟨rfl, hb⟩; have HB1 := hide hb; clear hb)
  refine bodyPost_ret (v := .tuple #[.pointer none, .int .i64 1]) (by simp [results, Try.results8, go_sem]) rfl ⟨rfl, HB1.out⟩
set_option maxRecDepth 100000 in
theorem popen_small {size : Int} (h : Sec w F db false left size S L N) (h4 : size < 4) :
    Calls Try.prog 8 #[.pointer (some ⟨db, 0, none⟩)] w fun e w' => e = .returned (.tuple #[.pointer none, .int .i64 1]) ∧ Below w.heap.size w w' := by
  have d1 : decide (size < 4) = true := by simpa using h4
  have H := hide h
  clear h
  go_enter Try.func8, Try.ntmps8
  go_wp2_with (go_at_call 23; (refine (sec_len H.out).mono ?_); rintro e w1 ⟨rfl, hb⟩; have HB1 := hide hb; clear hb)
  refine bodyPost_ret (v := .tuple #[.pointer none, .int .i64 1]) (by simp [results, Try.results8, go_sem]) rfl ⟨rfl, HB1.out⟩
/-- New, no limit set: what is there is another page. -/
theorem pnew_free (h : Pg w F pb sb db n 0 S L N seq root frm st) (A : Option Addr) (m c : Nat) (d : Cn) (hr : RB w w.heap.size A m d) (hm : m ≤ 505) (hN : N < 100000) (hroom : 0 < roomN st) :
    Calls Try.prog 10 #[.pointer (some ⟨pb, 0, none⟩), .slice A m c] w fun e w' => (∃ (a : Nat) (F' : Nat → Prop), e = .returned (.tuple #[.int .i64 a, .int .i64 0]) ∧ 2 ≤ a ∧ a < n ∧ isFree st a ∧ Pg w' F' pb sb db n 0 S (L ++ [((a : Int), sealC 2 d)]) (N + 1) seq root ((a : Int) - 1) (st.set a 1) ∧ Grw F w F') ∧ Fr (PF F pb sb) w w' := by
  refine (pnew_any h A m c d hr hm hN).mono ?_
  rintro e w' ⟨hR, hf⟩
  rcases hR with ⟨rfl, hno, hp⟩ | ⟨a, h1, h2, h3, ⟨hb, _⟩ | ⟨hb, rfl, F', hp, hg⟩⟩
  · exfalso
    unfold roomN at hroom
    obtain ⟨x, hx, hx0⟩ := List.countP_pos_iff.1 hroom
    obtain ⟨i, hi, rfl⟩ := List.getElem_of_mem hx
    rw [List.length_drop] at hi
    rw [List.getElem_drop] at hx0
    exact hno (2 + i) (by omega) ⟨by omega, by simpa using hx0⟩
  · cases hb
  · exact ⟨⟨a, F', rfl, h1, h2, h3, hp, hg⟩, hf⟩
end
end Go.Proofs.Ytddcmockdomonaa
