/- The law SectorActs returns true. -/
import Derived.Test.YthlgkhnkcjihiaaSecY
namespace Go.Proofs.Ythlgkhnkcjihiaa
set_option linter.unusedSimpArgs false
set_option linter.unusedVariables false
open Go.RowKit
theorem two_fresh {w : World} {F : Nat → Prop} {size : Int} {b : Nat} (h : Sec w F b false 0 size (fun _ => 0) [] 0) :
    Two (w.alloc (Obj.cells (rk size (.slice none 0 0) 0 0 false) TR)) b w.heap.size F (fun j => j = w.heap.size) size (RS.ss ⟨[], 0, 0, false⟩) ⟨[], 0, 0, false⟩ 0 :=
  ⟨h.below ((Below.refl _ _).alloc (Nat.le_refl _) _), ref_empty w size, fun j hj h' => by have := h.lt j hj; omega⟩
def ActsAt (w : World) (b bw : Nat) (size : Int) (N : Nat) (w' : World) : Prop :=
  ∃ F G r, Two w' b bw F G size r.ss r N ∧ (∀ j, F j → w.heap.size ≤ j) ∧ (∀ j, G j → w.heap.size ≤ j) ∧ Below w.heap.size w w'
theorem ActsAt.copy {w wr w' : World} {b bw bc N : Nat} {size : Int} {F G : Nat → Prop} {r : RS} (ht : Two wr b bw F G size r.ss r N) (hG : ∀ j, G j → w.heap.size ≤ j) (hb : Below w.heap.size w wr)
    (hs : Sec w' (fun j => wr.heap.size ≤ j ∧ j < w'.heap.size) bc r.ss.out r.ss.left size r.ss.S r.ss.L N) (hw : Below wr.heap.size wr w') : ActsAt w bc bw size N w' :=
  ⟨fun j => wr.heap.size ≤ j ∧ j < w'.heap.size, G, r, ⟨hs, ht.ref.below hw, fun j hj hg => by have := ht.ref.lt j hg; omega⟩, fun j hj => Nat.le_trans hb.size hj.1, hG, hb.trans (hw.mono hb.size)⟩
theorem ActsAt.act {w wr w' : World} {b bw N : Nat} {size : Int} {F G F' G' : Nat → Prop} {r' : RS} (hF : ∀ j, F j → w.heap.size ≤ j) (hG : ∀ j, G j → w.heap.size ≤ j) (hb : Below w.heap.size w wr)
    (ht : Two w' b bw F' G' size r'.ss r' N) (hF' : ∀ j, F' j → F j ∨ wr.heap.size ≤ j) (hG' : ∀ j, G' j → G j ∨ wr.heap.size ≤ j) (hf : Fr (FG F G) wr w') : ActsAt w b bw size N w' :=
  ⟨F', G', r', ht, fun x hx => (hF' x hx).elim (hF x) (fun h => Nat.le_trans hb.size h), fun x hx => (hG' x hx).elim (hG x) (fun h => Nat.le_trans hb.size h), hb.trans (hf.below hb.size (fun x hx => hx.elim (hF x) (hG x)))⟩
theorem ActsAt.below {w wr w' : World} {b bw N : Nat} {size : Int} (h : ActsAt w b bw size N wr) (hb : Below wr.heap.size wr w') : ActsAt w b bw size N w' := by
  obtain ⟨F, G, r, ht, hF, hG, h0⟩ := h
  exact ⟨F, G, r, ht.below hb, hF, hG, h0.trans (hb.mono h0.size)⟩
set_option maxRecDepth 100000 in
set_option maxHeartbeats 2000000 in
theorem acts_good (n0 : Int) (acts : List ActV) (A : Option Addr) (n c : Nat) (w : World) (hg : 1 ≤ n0 ∧ n0 ≤ 65536) (hr : AR w w.heap.size A n acts) (ho : okActs acts) (hn : n ≤ 140737488351232) :
    Calls Try.prog 6 #[.int .i64 n0, .slice A n c] w fun e w' => e = .returned (.bool true) ∧ Below w.heap.size w w' := by
  have HR := hide hr
  have HO := hide ho
  have HGD := hide hg
  obtain ⟨g1, g2⟩ := hg
  clear hr ho
  go_enter Try.func6, Try.ntmps6
  go_wp2_with (first | (go_at_call 14; (refine (sec_new n0 w HGD.out).mono ?_); rintro e w1 ⟨rfl, h1, hb1⟩; have H1 := hide h1; have HB1 := hide hb1; clear h1 hb1) | (go_at_call 9; (refine (answers_any w1).mono ?_); rintro e w2 ⟨rfl, hb2⟩; have H2 := hide (H1.out.below hb2); have HB2 := hide (HB1.out.trans (hb2.mono HB1.out.size)); clear hb2))
  go_loopw [5, 8] (fun d i wr => ∃ j b : Nat, j ≤ n ∧ j ≤ 100 ∧ i = .int .i64 j ∧ d = .pointer (some ⟨b, 0, none⟩) ∧ Hid (ActsAt w b w2.heap.size n0 (2 * j) wr)) (fun _ i _ => n - (intOf i).toNat)
  case atStart => exact ⟨0, w.heap.size + 1, by omega, by omega, rfl, rfl, hide ⟨_, _, _, two_fresh H2.out, fun j hj => hj.1, fun j hj => by have := HB2.out.size; omega, bal HB2.out _⟩⟩
  case round =>
    obtain ⟨j, b, hj, hj6, rfl, rfl, HI⟩ := hrel
    by_cases hlt : j < n ∧ j < 100
    · obtain ⟨hlt, hlt6⟩ := hlt
      obtain ⟨F, G, r, ht, hF, hG, hb⟩ := HI.out
      obtain ⟨bg, o, rfl, hbg, hc⟩ := Sl.at (HR.out.below hb) (fun _ => rfl) (by omega) (by omega : 0 < n)
      have hll := HR.out.len
      obtain ⟨a, ha⟩ : ∃ a, acts[j] = a := ⟨_, rfl⟩
      have hok := HO.out j (by omega)
      have c0 := hc j (by omega) 0 _ rfl
      have c1 := hc j (by omega) 1 _ rfl
      have c2 := hc j (by omega) 2 _ rfl
      have c3 := hc j (by omega) 3 _ rfl
      have c4 := hc j (by omega) 4 _ rfl
      rw [ha] at c0 c1 c2 c3 c4 hok
      simp only [Nat.add_zero] at c0
      have z0 : bg < wr.heap.size := Nat.lt_of_lt_of_le hbg hb.size
      have HT := hide ht
      have HFF := hide hF
      have HGG := hide hG
      have HB := hide hb
      have HOK := hide hok
      have i60 : (j : Int) < 100 := by omega
      clear ht hF hG hb hc hok HI ha hll
      cases d6 : (a.kind == 6)
      · go_wp2_with (first | (go_at_call 20; (refine (act_any HT.out (by omega) a HOK.out).mono ?_); rintro e w6 ⟨⟨β, rfl, hβ⟩, ⟨F6, G6, h6, hF6, hG6⟩, hf6⟩; have hβ2 := hβ rfl; subst hβ2; rw [st_alike n0 a r HT.out.ref.su] at h6; have H6 := hide h6; have HA6 := hide (ActsAt.act HFF.out HGG.out HB.out h6 hF6 hG6 hf6); clear hβ h6 hF6 hG6 hf6) | (go_at_call 23; (refine (alike_any H6.out).mono ?_); rintro e w7 ⟨rfl, hb7⟩; have HA7 := hide (HA6.out.below hb7); clear hb7))
        go_roundw
        case rel => exact ⟨j + 1, b, by omega, by omega, by go_num, rfl, HA7⟩
        case measure => simp [intOf]; omega
      · go_wp2_with (first | (go_at_call 22; (refine (sec_copy HT.out.sec).mono ?_); rintro e w5 ⟨bc, rfl, h5, hb5⟩; obtain ⟨F5, G5, r5, ht5, hF5, hG5, hbb5⟩ := ActsAt.copy HT.out HGG.out HB.out h5 hb5; have HT5 := hide ht5; have HFF5 := hide hF5; have HGG5 := hide hG5; have HB5 := hide hbb5; have e0 := (hb5.cell z0).trans c0; have e1 := (hb5.cell z0).trans c1; have e2 := (hb5.cell z0).trans c2; have e3 := (hb5.cell z0).trans c3; have e4 := (hb5.cell z0).trans c4; have z5 := Nat.lt_of_lt_of_le z0 hb5.size; clear h5 hb5 ht5 hF5 hG5 hbb5) | (go_at_call 20; (refine (act_any HT5.out (by omega) a HOK.out).mono ?_); rintro e w6 ⟨⟨β, rfl, hβ⟩, ⟨F6, G6, h6, hF6, hG6⟩, hf6⟩; have hβ2 := hβ rfl; subst hβ2; rw [st_alike n0 a r5 HT5.out.ref.su] at h6; have H6 := hide h6; have HA6 := hide (ActsAt.act HFF5.out HGG5.out HB5.out h6 hF6 hG6 hf6); clear hβ h6 hF6 hG6 hf6) | (go_at_call 23; (refine (alike_any H6.out).mono ?_); rintro e w7 ⟨rfl, hb7⟩; have HA7 := hide (HA6.out.below hb7); clear hb7))
        go_roundw
        case rel => exact ⟨j + 1, bc, by omega, by omega, by go_num, rfl, HA7⟩
        case measure => simp [intOf]; omega
    · have HB := hide (show Below w.heap.size w wr from by obtain ⟨F, G, r, ht, hF, hG, hb⟩ := HI.out; exact hb)
      clear HI
      by_cases hlt2 : j < n
      · have i60 : ¬ (j : Int) < 100 := by omega
        go_wp2
        go_ret
        exact ⟨rfl, HB.out⟩
      · go_wp2
        go_ret
        exact ⟨rfl, HB.out⟩
set_option maxRecDepth 100000 in
set_option maxHeartbeats 2000000 in
theorem acts_bad (n0 : Int) (acts : List ActV) (A : Option Addr) (n c : Nat) (w : World) (hg : n0 < 1 ∨ 65536 < n0) (hr : AR w w.heap.size A n acts) (hn : n ≤ 140737488351232) :
    Calls Try.prog 6 #[.int .i64 n0, .slice A n c] w fun e w' => e = .returned (.bool true) ∧ Below w.heap.size w w' := by
  have HBAD := hide hg
  clear hr
  by_cases hn0 : n = 0
  · subst hn0
    rcases hg with hg | hg
    · go_enter Try.func6, Try.ntmps6
      go_wp2_with (first | (go_at_call 14; (refine (new_bad n0 w HBAD.out).mono ?_); rintro e w1 ⟨rfl, hb1⟩; have HB1 := hide hb1; clear hb1) | (go_at_call 9; (refine (answers_any w1).mono ?_); rintro e w2 ⟨rfl, hb2⟩; have HB2 := hide (HB1.out.trans (hb2.mono HB1.out.size)); clear hb2))
      go_loopw [5, 8] (fun d i wr => d = .pointer none ∧ i = .int .i64 0 ∧ Hid (Below w.heap.size w wr)) (fun _ _ _ => 0)
      case atStart => exact ⟨rfl, rfl, hide (HB2.out.alloc HB2.out.size _)⟩
      case round =>
        obtain ⟨rfl, rfl, HI⟩ := hrel
        go_wp2
        go_ret
        exact ⟨rfl, HI.out⟩
    · have g1 : 1 ≤ n0 := by omega
      go_enter Try.func6, Try.ntmps6
      go_wp2_with (first | (go_at_call 14; (refine (new_bad n0 w HBAD.out).mono ?_); rintro e w1 ⟨rfl, hb1⟩; have HB1 := hide hb1; clear hb1) | (go_at_call 9; (refine (answers_any w1).mono ?_); rintro e w2 ⟨rfl, hb2⟩; have HB2 := hide (HB1.out.trans (hb2.mono HB1.out.size)); clear hb2))
      go_loopw [5, 8] (fun d i wr => d = .pointer none ∧ i = .int .i64 0 ∧ Hid (Below w.heap.size w wr)) (fun _ _ _ => 0)
      case atStart => exact ⟨rfl, rfl, hide (HB2.out.alloc HB2.out.size _)⟩
      case round =>
        obtain ⟨rfl, rfl, HI⟩ := hrel
        go_wp2
        go_ret
        exact ⟨rfl, HI.out⟩
  · have hn1 : (0 : Int) < n := by omega
    rcases hg with hg | hg
    · go_enter Try.func6, Try.ntmps6
      go_wp2_with (first | (go_at_call 14; (refine (new_bad n0 w HBAD.out).mono ?_); rintro e w1 ⟨rfl, hb1⟩; have HB1 := hide hb1; clear hb1) | (go_at_call 9; (refine (answers_any w1).mono ?_); rintro e w2 ⟨rfl, hb2⟩; have HB2 := hide (HB1.out.trans (hb2.mono HB1.out.size)); clear hb2))
      go_loopw [5, 8] (fun d i wr => d = .pointer none ∧ i = .int .i64 0 ∧ Hid (Below w.heap.size w wr)) (fun _ _ _ => 0)
      case atStart => exact ⟨rfl, rfl, hide (HB2.out.alloc HB2.out.size _)⟩
      case round =>
        obtain ⟨rfl, rfl, HI⟩ := hrel
        go_wp2
        go_ret
        exact ⟨rfl, HI.out⟩
    · have g1 : 1 ≤ n0 := by omega
      go_enter Try.func6, Try.ntmps6
      go_wp2_with (first | (go_at_call 14; (refine (new_bad n0 w HBAD.out).mono ?_); rintro e w1 ⟨rfl, hb1⟩; have HB1 := hide hb1; clear hb1) | (go_at_call 9; (refine (answers_any w1).mono ?_); rintro e w2 ⟨rfl, hb2⟩; have HB2 := hide (HB1.out.trans (hb2.mono HB1.out.size)); clear hb2))
      go_loopw [5, 8] (fun d i wr => d = .pointer none ∧ i = .int .i64 0 ∧ Hid (Below w.heap.size w wr)) (fun _ _ _ => 0)
      case atStart => exact ⟨rfl, rfl, hide (HB2.out.alloc HB2.out.size _)⟩
      case round =>
        obtain ⟨rfl, rfl, HI⟩ := hrel
        go_wp2
        go_ret
        exact ⟨rfl, HI.out⟩
theorem acts_any (n0 : Int) (acts : List ActV) (A : Option Addr) (n c : Nat) (w : World) (hr : AR w w.heap.size A n acts) (ho : okActs acts) (hn : n ≤ 140737488351232) :
    Calls Try.prog 6 #[.int .i64 n0, .slice A n c] w fun e w' => e = .returned (.bool true) ∧ Below w.heap.size w w' := by
  by_cases hg : 1 ≤ n0 ∧ n0 ≤ 65536
  · exact acts_good n0 acts A n c w hg hr ho hn
  · exact acts_bad n0 acts A n c w (by omega) hr hn
end Go.Proofs.Ythlgkhnkcjihiaa
