/- PagerActs: a list without one. -/
import Derived.Test.YtddcmockdomonaaPgActA
namespace Go.Proofs.Ytddcmockdomonaa
set_option linter.unusedSimpArgs false
set_option linter.unusedVariables false
open Go.RowKit
theorem own_slice {w : World} {base n k : Nat} {e : TypeId} {v : Value} {xs : List Value} (h : w.ownsRow base e k v n xs) : ∃ A c, v = .slice A n c ∧ n ≤ c := by
  rcases h.2 with ⟨rfl, h0⟩ | ⟨g, cap, cur, rfl, _, _, hc, _⟩
  · exact ⟨none, 0, by rw [h0], by omega⟩
  · exact ⟨_, _, rfl, hc⟩
theorem below_own {a w w' : World} {base n : Nat} {v : Value} {l : List Value} {E : TypeId} {k : Nat} (hb : Below a.heap.size a w) (ho : w.ownsRow a.heap.size E k v n l) (hg : w.grownBy w' v.ownBlock) : Below a.heap.size a w' :=
  hb.grown hg hb.size (fun k hk => (ho.lt k hk).1)
/-- A list that is made anew out of none: what was there stays. -/
theorem below_lit {w w' : World} {o : Obj} (hg : (w.alloc o).grownBy w' (some w.heap.size)) : Below w.heap.size w w' :=
  ((Below.refl w.heap.size w).alloc (Nat.le_refl _) o).grown hg (by simp) (fun k hk => by injection hk with hk; omega)
theorem erase_flat (l : PgL) (k : Nat) : ([] ++ (l.take k).flatMap pgE) ++ (l.drop (k + 1)).flatMap pgE = (l.eraseIdx k).flatMap pgE := by
  rw [List.nil_append, List.eraseIdx_eq_take_drop_succ, List.flatMap_append]
set_option maxRecDepth 100000 in
theorem without_any (A : Option Addr) (n c : Nat) (l : PgL) (k : Nat) (w : World) (hr : PL w w.heap.size A n l) (hn : n ≤ 100000) (hk : k < n) (hc : n ≤ c) :
    Calls Try.prog 19 #[.slice A n c, .int .i64 (k : Int)] w fun e w' => (∃ v, e = .returned v ∧ w'.ownsRow w.heap.size TG 2 v (n - 1) ((l.eraseIdx k).flatMap pgE)) ∧ Below w.heap.size w w' := by
  obtain ⟨i0, hi0, hz0, hz1, hz2⟩ := info_parts page_info
  have HS := hide (Sl.cut hr pgE_len (i := k + 1) (cap := c) (by omega) hc)
  have HR := hide hr
  have HL := hide hr.len
  have hsz : 0 + k + (n - (k + 1)) = n - 1 := by omega
  have HSZ := hide hsz
  obtain ⟨b, o, rfl, -⟩ := PL.at_ hr hk
  clear hr hsz
  by_cases hck : c = k + 1
  · subst hck
    rw [if_pos rfl] at HS
    have e0 : n - (k + 1) = 0 := by omega
    rw [e0] at HS HSZ
    go_enter Try.func19, Try.ntmps19
    go_wp2_with (first | (at_builtin; (refine wpList_append_any _ rfl (.tmp 11) (.tmp 15) _ rfl w.heap.size TG i0 _ 2 24 Try.underlying47 hi0 hz0 hz1 hz2 rfl (by omega) v2 (0 + k) _ rfl HO.out w.heap.size _ (0) _ ((l.drop (k + 1)).flatMap pgE) rfl ((HS.out.below HB2.out).2) (pgE_one _) (by unfold maxLen; omega) (by omega) HB2.out.size ?_); intro v3 w3 ho hg _; rw [erase_flat, HSZ.out] at ho; have HO3 := hide ho; have HB3 := hide (below_own (base := 0) HB2.out HO.out hg); clear ho hg) | (at_builtin; (refine wpList_append_any _ rfl (.tmp 6) (.tmp 9) _ rfl w.heap.size TG i0 _ 2 24 Try.underlying47 hi0 hz0 hz1 hz2 rfl (by omega) _ 0 [] rfl (World.ownsRow_lit w #[] 0 (Nat.le_refl _) (by unfold maxLen; omega) rfl) w.heap.size _ k _ ((l.take k).flatMap pgE) rfl (Reads.al (Nat.le_refl _) (HR.out.take pgE_len (Nat.le_of_lt hk)).2 _) (pgE_one _) (by unfold maxLen; omega) (by omega) (by simp) ?_); intro v2 w2 ho hg _; have HO := hide ho; have HB2 := hide (below_lit hg); clear ho hg))
    go_ret
    exact ⟨⟨_, rfl, HO3.out⟩, HB3.out⟩
  · rw [if_neg hck] at HS
    go_enter Try.func19, Try.ntmps19
    go_wp2_with (first | (at_builtin; (refine wpList_append_any _ rfl (.tmp 11) (.tmp 15) _ rfl w.heap.size TG i0 _ 2 24 Try.underlying47 hi0 hz0 hz1 hz2 rfl (by omega) v2 (0 + k) _ rfl HO.out w.heap.size _ (n - (k + 1)) _ ((l.drop (k + 1)).flatMap pgE) rfl ((HS.out.below HB2.out).2) (pgE_one _) (by unfold maxLen; omega) (by omega) HB2.out.size ?_); intro v3 w3 ho hg _; rw [erase_flat, HSZ.out] at ho; have HO3 := hide ho; have HB3 := hide (below_own (base := 0) HB2.out HO.out hg); clear ho hg) | (at_builtin; (refine wpList_append_any _ rfl (.tmp 6) (.tmp 9) _ rfl w.heap.size TG i0 _ 2 24 Try.underlying47 hi0 hz0 hz1 hz2 rfl (by omega) _ 0 [] rfl (World.ownsRow_lit w #[] 0 (Nat.le_refl _) (by unfold maxLen; omega) rfl) w.heap.size _ k _ ((l.take k).flatMap pgE) rfl (Reads.al (Nat.le_refl _) (HR.out.take pgE_len (Nat.le_of_lt hk)).2 _) (pgE_one _) (by unfold maxLen; omega) (by omega) (by simp) ?_); intro v2 w2 ho hg _; have HO := hide ho; have HB2 := hide (below_lit hg); clear ho hg))
    go_ret
    exact ⟨⟨_, rfl, HO3.out⟩, HB3.out⟩
theorem convert_any {w : World} {A : Option Addr} {n c : Nat} {l : Cn} (h : RB w w.heap.size A n l) : (convert 33 9 (.slice A n c)).run Try.prog w = .ok (bstr l) w := by
  have hl := h.len
  rcases Nat.eq_zero_or_pos n with h0 | h0
  · subst h0
    have : l = [] := List.eq_nil_of_length_eq_zero hl
    subst this
    cases A with
    | none =>
      rw [run_convert_bytes_string w _ _ _ none 0 c Try.underlying33 Try.underlying5 Try.underlying9]
      simp [Conv.bytesToString]
      rfl
    | some a => exact run_convert_bytes_back w 33 9 5 a c [] Try.underlying33 Try.underlying5 Try.underlying9 (fun j hj => by simp at hj)
  · obtain ⟨ad, rfl, hb, hc⟩ := RB.at_ h h0 (by omega)
    subst hl
    refine run_convert_bytes_back w 33 9 5 ad c l Try.underlying33 Try.underlying5 Try.underlying9 (fun j hj => ?_)
    obtain ⟨ad', e, _, hc'⟩ := RB.at_ h hj hj
    injection e with e
    subst e
    exact hc'
theorem Sl.far {α : Type} {k : Nat} {enc : α → List Value} {w w' : World} {G : Nat → Prop} {A : Option Addr} {n : Nat} {l : List α} {B : Nat} (h : Sl k enc w B A n l) (hB : B ≤ w.heap.size) (hf : Fr G w w') (hA : ∀ ad, A = some ad → ¬ G ad.block) : Sl k enc w' B A n l := by
  refine ⟨h.1, h.2.1, fun h0 => ?_⟩
  obtain ⟨ad, e, hb, hc⟩ := h.2.2 h0
  refine ⟨ad, e, hb, fun j u hu => ?_⟩
  have e' : (ad.add j).block = ad.block := block_of_add ad j
  exact (cell_heap (hf.block _ (by rw [e']; omega) (by rw [e']; exact hA ad e))).trans (hc j u hu)
theorem below_drewN (w : World) (n : Nat) : Below w.heap.size w (w.drewN n) := ⟨rfl, rfl, rfl, Nat.le_refl _, fun _ _ => rfl⟩
set_option maxRecDepth 100000 in
set_option maxHeartbeats 1000000 in
/-- All pages of a list have what they should. -/
theorem intact_any {F : Nat → Prop} {pb sb db n : Nat} {left : Int} {S : Int → Cn} {L : List (Int × Cn)} {N : Nat} {seq root frm : Int} {st : Cn} (w : World) (h : Pg w F pb sb db n left S L N seq root frm st) (A : Option Addr) (m c : Nat) (l : PgL) (hr : PL w w.heap.size A m l) (hm : m ≤ 100000)
    (hA : ∀ ad, A = some ad → ¬ PF F pb sb ad.block) (hl : ∀ p ∈ l, pgB n (p.1 : Int) = true ∧ p.2.length ≤ 505 ∧ nowC S L (p.1 : Int) = sealC 2 p.2) :
    Calls Try.prog 22 #[.pointer (some ⟨pb, 0, none⟩), .slice A m c] w fun e w' => e = .returned (.bool true) ∧ Pg w' F pb sb db n left S L N seq root frm st ∧ Fr (PF F pb sb) w w' := by
  have HR := hide hr
  have HL := hide hr.len
  have HP := hide h
  have HA := hide hA
  have HC := hide hl
  clear hr h hA hl
  go_enter Try.func22, Try.ntmps22
  go_wp2_with fail
  have HI0 := hide (And.intro HP.out (Fr.refl (PF F pb sb) w))
  go_loopw [5] (fun iv wr => ∃ j : Nat, j ≤ m ∧ iv = .int .i64 j ∧ Hid (Pg wr F pb sb db n left S L N seq root frm st ∧ Fr (PF F pb sb) w wr)) (fun iv _ => m - (intOf iv).toNat)
  case atStart => exact ⟨0, by omega, rfl, HI0⟩
  case round =>
    obtain ⟨j, hj, rfl, HI⟩ := hrel
    by_cases hlt : j < m
    · have HS := hide (Sl.far HR.out (Nat.le_refl _) HI.out.2 HA.out)
      obtain ⟨b, o, rfl, hb, hjl, c0, c1⟩ := PL.at_ HS.out hlt
      have hp := HC.out _ (List.getElem_mem hjl)
      obtain ⟨⟨x, d⟩, hx⟩ : ∃ x, l[j] = x := ⟨_, rfl⟩
      rw [hx] at c0 c1 hp
      simp only at c0 c1 hp
      have hbw : b < wr.heap.size := Nat.lt_of_lt_of_le hb HI.out.2.size
      have HX := hide hp
      have HBN := hide (show ¬ PF F pb sb b from HA.out _ rfl)
      have C1 := hide c1
      clear hx hjl hb hp c1
      go_wp2_with (first | (go_at_call 17; (refine (pread_ok HI.out.1 (x : Int) HX.out.1 d HX.out.2.1 HX.out.2.2).mono ?_); rintro e w4 ⟨⟨v4, rfl, ho⟩, hp, hf⟩; have hc4 := (fun N => own_str (w := w4.drewN N) ho rfl); unfold bstr at hc4; have c4 := (cell_heap (p := ⟨b, o + j * 2 + 1, none⟩) (hf.block b hbw HBN.out)).trans C1.out; unfold bstr at c4; have z4 := Nat.lt_of_lt_of_le hbw hf.size; have HI4 := hide (And.intro hp (HI.out.2.trans hf (fun _ _ h => h))); clear ho hp hf))
      obtain ⟨s, hs⟩ : ∃ s, ByteArray.mk d.toArray = s := ⟨_, rfl⟩
      rw [hs] at c4
      simp only [hs] at hc4
      clear hs C1 HX HS
      go_quiet (fail)
      have HI5 := hide (And.intro (HI4.out.1.below (below_drewN w4 nq)) (HI4.out.2.trans (Fr.of_below (below_drewN w4 nq)) (fun _ _ h => h)))
      go_wp2
      go_roundw
      case rel => exact ⟨j + 1, by omega, by go_num, HI5⟩
      case measure => simp [intOf]; omega
    · go_wp2
      go_ret
      exact ⟨rfl, HI.out⟩
end Go.Proofs.Ytddcmockdomonaa
