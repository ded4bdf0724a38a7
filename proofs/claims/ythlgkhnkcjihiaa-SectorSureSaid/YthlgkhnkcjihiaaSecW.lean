/- The sectors' disk: copies of writes, Unsure, maps.Clone. -/
import Derived.Test.YthlgkhnkcjihiaaSecV
import Derived.Test.YthlgkhnkcjihiaaMapR
import Derived.Shelf.SlMaps.Clone
namespace Go.Proofs.Ythlgkhnkcjihiaa
set_option linter.unusedSimpArgs false
set_option linter.unusedVariables false
open Go.RowKit
theorem fil_clone {w : World} {F : Nat → Prop} {g cap : Nat} {c : Int} (h : Fil w F (.slice (some ⟨g, 0, none⟩) 512 cap) c) :
    Calls Try.prog 29 #[.slice (some ⟨g, 0, none⟩) 512 cap] w fun e w' => ∃ g' cap', e = .returned (.slice (some ⟨g', 0, none⟩) 512 cap') ∧ Fil w' (fun j => w.heap.size ≤ j) (.slice (some ⟨g', 0, none⟩) 512 cap') c ∧ Below w.heap.size w w' := by
  obtain ⟨g1, c1, e1, _, hr⟩ := h.reads
  injection e1 with e1 _ e2
  injection e1 with e1
  injection e1 with e1
  subst e1 e2
  refine (clone_any ⟨g, 0, none⟩ 512 cap (cs8 c) w hr (cs8_one c) (by omega)).mono ?_
  rintro e w' ⟨v, rfl, ho, hb⟩
  have hf := Fil.of_row (F := fun j => w.heap.size ≤ j) ho h.1 (fun g hg _ => hg)
  obtain ⟨hc, g', cap', cs, rfl, r⟩ := hf
  exact ⟨g', cap', rfl, ⟨hc, g', cap', cs, rfl, r⟩, hb⟩
def ac (x : UW) : Int × Int := (x.at_, x.c)
/-- Copies of writes, in blocks of their own. -/
structure Cop (base : Nat) (w : World) (us us' : List UW) (v : Value) : Prop where
  row : w.ownsRow base TW 2 v us'.length (us'.flatMap UW.enc)
  fil : ∀ x ∈ us', Fil w (fun j => base ≤ j) x.v x.c
  same : us'.map ac = us.map ac
theorem Cop.later {base : Nat} {w w' : World} {us us' : List UW} {v : Value} (h : Cop base w us us' v) (hb : Below w.heap.size w w') : Cop base w' us us' v :=
  ⟨own_later h.row hb, fun x hx => (h.fil x hx).below hb (fun _ h => h), h.same⟩
theorem cop_step {base : Nat} {w w2 : World} {us us' : List UW} {v v' v4 : Value} {xa xc : Int} {x : UW} (hC : Cop base w us us' v) (hv : Fil w (fun j => base ≤ j) v4 xc) (hg : w.grownBy w2 v.ownBlock)
    (ho : w2.ownsRow base TW 2 v' (us'.length + 1) (us'.flatMap UW.enc ++ [.int .i64 xa, v4])) (hx : ac x = (xa, xc)) : Cop base w2 (us ++ [x]) (us' ++ [⟨xa, v4, xc⟩]) v' where
  row := by
    rw [List.length_append, List.flatMap_append]
    exact ho
  fil := fun y hy => by
    rcases List.mem_append.1 hy with h | h
    · exact (hC.fil y h).grown_row hC.row hg (fun _ h => h)
    · simp at h
      subst h
      exact hv.grown_row hC.row hg (fun _ h => h)
  same := by
    rw [List.map_append, List.map_append, hC.same]
    unfold ac at hx
    injection hx with h1 h2
    simp [ac, h1, h2]
set_option maxRecDepth 100000 in
set_option maxHeartbeats 2000000 in
theorem copies_any (us : List UW) (A : Option Addr) (n c : Nat) (w : World) (hr : Sl 2 UW.enc w w.heap.size A n us) (hf : ∀ x ∈ us, ∃ F, Fil w F x.v x.c) (hn : n ≤ 200000) :
    Calls Try.prog 36 #[.slice A n c] w fun e w' => ∃ v us', e = .returned v ∧ Cop w.heap.size w' us us' v ∧ Below w.heap.size w w' := by
  obtain ⟨i0, hi0, hz0, hz1, hz2⟩ := info_parts write_info
  have HR := hide hr
  have HF := hide hf
  clear hr hf
  go_enter Try.func36, Try.ntmps36
  go_wp2_with fail
  go_loopw [3, 8] (fun v i wr => ∃ (k : Nat) (A' : Option Addr) (c' : Nat) (us' : List UW), k ≤ n ∧ i = .int .i64 k ∧ v = .slice A' k c' ∧ Hid (Cop w.heap.size wr (us.take k) us' (.slice A' k c') ∧ us'.length = k ∧ Below w.heap.size w wr)) (fun _ i _ => n - (intOf i).toNat)
  case atStart => exact ⟨0, none, 0, [], by omega, rfl, rfl, hide ⟨⟨⟨rfl, .inl ⟨rfl, rfl⟩⟩, fun x hx => by simp at hx, rfl⟩, rfl, Below.refl _ _⟩⟩
  case round =>
    obtain ⟨k, A', c', us', hk, rfl, rfl, HI⟩ := hrel
    by_cases hlt : k < n
    · obtain ⟨bg, o, rfl, hbg, hc⟩ := Sl.at (HR.out.below HI.out.2.2) (fun _ => rfl) (by omega) (by omega : 0 < n)
      have hll := HR.out.len
      have c0 := hc k (by omega) 0 _ rfl
      have c1 := hc k (by omega) 1 _ rfl
      obtain ⟨F, hF⟩ := HF.out us[k] (List.getElem_mem (by omega))
      have hF' := hF.below HI.out.2.2 (fun _ h => h)
      obtain ⟨x, hx⟩ : ∃ x, us[k] = x := ⟨_, rfl⟩
      have htk : us.take (k + 1) = us.take k ++ [x] := by rw [List.take_succ_eq_append_getElem (by omega), hx]
      rw [hx] at c0 c1 hF'
      obtain ⟨xa, xv, xc⟩ := x
      simp only at c0 c1 hF'
      obtain ⟨gd, cd, ev, _, _⟩ := hF'.reads
      subst ev
      have HF' := hide hF'
      have HTK := hide htk
      simp only [Nat.add_zero] at c0
      have zg : bg < wr.heap.size := Nat.lt_of_lt_of_le hbg HI.out.2.2.size
      clear hc hF hF' hx htk hll
      go_wp2_with (first | (go_at_call 29; (refine (fil_clone (HF'.out.below ((Below.refl wr.heap.size wr).alloc (Nat.le_refl _) _) (fun _ h => h))).mono ?_); rintro e w4 ⟨g4, cap4, rfl, hf4, hb4⟩; have kb4 := ((Blk.new wr TW #[.int .i64 xa, .slice (some ⟨gd, 0, none⟩) 512 cd]).below hb4 (by simp)); have kx := kb4.cell; have qx := kb4.frozen; have zx := kb4.lt; have HF4 := hide hf4; have HKB4 := hide kb4; have HB4 := hide (((Below.refl wr.heap.size wr).alloc (Nat.le_refl _) (Obj.cells #[.int .i64 xa, .slice (some ⟨gd, 0, none⟩) 512 cd] TW)).trans (hb4.mono (by simp))); clear hf4 hb4 kb4) | (at_builtin; obtain ⟨W5, hW5, hB5, hF5, hR5⟩ : ∃ W5, ((w4.setCell ⟨wr.heap.size, 1, none⟩ (.slice (some ⟨g4, 0, none⟩) 512 cap4)).alloc (Obj.cells #[.int .i64 xa, .slice (some ⟨g4, 0, none⟩) 512 cap4] TW)) = W5 ∧ Below wr.heap.size wr W5 ∧ Fil W5 (fun j => w.heap.size ≤ j) (.slice (some ⟨g4, 0, none⟩) 512 cap4) xc ∧ Reads W5 (w4.heap.size + 1) 2 (some ⟨w4.heap.size, 0, none⟩) 1 [.int .i64 xa, .slice (some ⟨g4, 0, none⟩) 512 cap4] := ⟨_, rfl, (HB4.out.setCell (by exact Nat.le_refl _) _).alloc (by simp; exact HB4.out.size) _, ((HF4.out.turn HKB4.out (by decide) (gby_set _ _ _ _) (fun j hj => Nat.le_trans HI.out.2.2.size (by simp at hj; omega))).below ((Below.refl _ _).alloc (Nat.le_refl _) _) (fun _ h => h)), by have := reads_new2 (w4.setCell ⟨wr.heap.size, 1, none⟩ (.slice (some ⟨g4, 0, none⟩) 512 cap4)) TW (.int .i64 xa) (.slice (some ⟨g4, 0, none⟩) 512 cap4); simpa using this⟩; rw [hW5]; have HC5 := hide (HI.out.1.later hB5); have HB5 := hide hB5; have HF5 := hide hF5; (refine wpList_append_any _ rfl (.tmp 16) (.tmp 18) _ rfl w.heap.size TW i0 _ 2 32 Try.underlying34 hi0 hz0 hz1 hz2 rfl (by omega) _ k _ rfl (by have := HC5.out.row; rw [HI.out.2.1] at this; exact this) (w4.heap.size + 1) (some ⟨w4.heap.size, 0, none⟩) 1 1 [.int .i64 xa, .slice (some ⟨g4, 0, none⟩) 512 cap4] rfl hR5 (by intro y hy; simp at hy; rcases hy with rfl | rfl <;> rfl) (by unfold maxLen; omega) (by omega) (Nat.le_trans HI.out.2.2.size HB5.out.size) ?_); intro v' w2 ho hg _; obtain ⟨A2, c2, rfl⟩ := row_form ho; have HO := hide ho; have HG := hide hg; clear ho hg hB5 hF5 hR5 hW5))
      go_roundw
      case rel =>
        refine ⟨k + 1, A2, c2, us' ++ [⟨xa, .slice (some ⟨g4, 0, none⟩) 512 cap4, xc⟩], by omega, by go_num, rfl, hide ⟨?_, by rw [List.length_append, HI.out.2.1]; rfl, ?_⟩⟩
        · rw [HTK.out]
          exact cop_step HC5.out HF5.out HG.out (by rw [HI.out.2.1]; exact HO.out) rfl
        · exact (HI.out.2.2.trans (HB5.out.mono HI.out.2.2.size)).grown HG.out (Nat.le_trans HI.out.2.2.size HB5.out.size) (fun j e => (HC5.out.row.lt j e).1)
      case measure => simp [intOf]; omega
    · have e : k = n := by omega
      subst e
      go_wp2
      go_ret
      have hci := HI.out.1
      rw [← HR.out.len, List.take_length] at hci
      exact ⟨_, us', rfl, by rw [HR.out.len] at hci; exact hci, HI.out.2.2⟩
theorem sec_forms {w : World} {F : Nat → Prop} {b : Nat} {out : Bool} {left size : Int} {S : Int → Int} {L : List (Int × Int)} {N m : Nat} {u : Value} {n : Nat} {D : DataW Value} {us : List UW} (h : SecG w F b out left size S L N m u n D us) :
    ∃ A cap, u = .slice A us.length cap ∧ us.length ≤ cap ∧ Sl 2 UW.enc w w.heap.size A us.length us := by
  obtain ⟨A, c, hv, h1, _, h2⟩ := Sl.of_owns (l := us) (n := us.length) (enc := UW.enc) h.row rfl rfl rfl
  exact ⟨A, c, hv, h1, h2⟩
set_option maxRecDepth 100000 in
set_option maxHeartbeats 1000000 in
theorem sec_unsure {w : World} {F : Nat → Prop} {b : Nat} {out : Bool} {left size : Int} {S : Int → Int} {L : List (Int × Int)} {N : Nat} (h : Sec w F b out left size S L N) :
    Calls Try.prog 21 #[.pointer (some ⟨b, 0, none⟩)] w fun e w' => ∃ v us us', e = .returned v ∧ Cop w.heap.size w' us us' v ∧ us.map ac = L ∧ us.length ≤ N ∧ Below w.heap.size w w' := by
  obtain ⟨m, u, n, D, us, h⟩ := h
  obtain ⟨A, cap, rfl, _, hs⟩ := sec_forms h
  have H := hide h
  have HS := hide hs
  have hul : us.length ≤ 200000 := by have := h.hn; have := h.hN; omega
  have kx := h.blk.cell; have qx := h.blk.frozen; have zx := h.blk.lt
  unfold dk at kx
  clear h hs
  go_enter Try.func21, Try.ntmps21
  go_wp2_with (go_at_call 36; (refine (copies_any us A us.length cap w HS.out (fun x hx => ⟨F, (H.out.fil x hx).1⟩) hul).mono ?_); rintro e w1 ⟨v, us', rfl, hc, hb1⟩; obtain ⟨A1, c1, rfl⟩ := row_form hc.row; have HC := hide hc; have HB1 := hide hb1; clear hc hb1)
  go_ret
  exact ⟨_, us, us', rfl, HC.out, H.out.hL, by have := H.out.hn; omega, HB1.out⟩
set_option maxRecDepth 100000 in
set_option maxHeartbeats 1000000 in
theorem mclone_any (b n : Nat) (D : DataW Value) (w : World) (h : DMap w b n D) :
    Calls Try.prog 37 #[.map (some b)] w fun e w' => e = .returned (.map (some w.heap.size)) ∧ DMap w' w.heap.size n D ∧ Below w.heap.size w w' := by
  have hq := fun w => run_eql_map_nil_sl (P := Try.prog) w 64 _ _ (some b) Try.underlying64
  have HM := hide h
  obtain ⟨es, clock, hb, F, hs, hD⟩ := h
  clear F hs hD
  go_enter Try.func37, Try.ntmps37
  go_wp2
  rw [run_callFunc_extern Try.func40 (by kernel_rfl) (by kernel_rfl) (by kernel_rfl) (e := Extern.MapsClone.clone) (by kernel_rfl), run_maps_clone_sl w 64 hb]
  simp only [Result.andThen]
  rw [Oper.upon_value]
  go_wp2
  rw [run_typeAssert_map_sl _ 64 20 _ _ _ Try.underlying64]
  simp only [Result.andThen]
  rw [Oper.upon_value]
  go_wp2
  go_ret
  refine ⟨rfl, ?_, (Below.refl _ _).alloc (Nat.le_refl _) _⟩
  obtain ⟨es', clock', hb', F, hs, hD⟩ := HM.out
  rw [hb] at hb'
  injection hb' with hb'
  injection hb' with e1 e2
  subst e1 e2
  exact ⟨es, clock, heap_alloc_new w _, F, hs, hD⟩
end Go.Proofs.Ythlgkhnkcjihiaa
