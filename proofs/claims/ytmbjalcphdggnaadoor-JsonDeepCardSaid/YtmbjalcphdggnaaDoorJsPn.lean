/- The law on brackets within one another, walked. -/
import Derived.Test.YtmbjalcphdggnaaDoorJsPm
namespace Go.Proofs.YtmbjalcphdggnaaDoor
set_option linter.unusedSimpArgs false
set_option linter.unusedVariables false
open Go.RowKit
/-- The state of the first loop. -/
structure NS (w wr : World) (g : Nat) (J : JV) (cs : List Value) : Prop where
  bel : Below w.heap.size w wr
  blk : Blk wr g TV cs.toArray
  vr : VRd wr (fun j => g < j) J cs
  le : w.heap.size ≤ g
theorem vrd_one {w : World} {F : Nat → Prop} {J : JV} {cs : List Value} {g2 : Nat} (hb : Blk w g2 TV cs.toArray) (hF : F g2) (hJ : VRd w F J cs) : ReadsF w F 4 (some ⟨g2, 0, none⟩) 1 cs ∧ VRdL w F [J] cs := by
  have hl : cs.length = 4 := by obtain ⟨k, t, A, n, c, A', n', c', rfl⟩ := hJ.four; rfl
  refine ⟨⟨by omega, fun _ => ⟨_, rfl, hF, fun j u hu => ?_⟩⟩, ?_⟩
  · have e := hb.cell j
    rw [show (⟨g2, 0, none⟩ : Addr).add j = ⟨g2, j, none⟩ by simp [Addr.add]; exact fun h => h.symm, e]
    simpa using hu
  · unfold VRdL
    exact ⟨cs, [], by simp, hJ, by unfold VRdL; rfl⟩
theorem set4_alloc (w : World) (o : Obj) {g : Nat} (h : g < w.heap.size) (a b c d : Value) : set4 (w.alloc o) g a b c d = (set4 w g a b c d).alloc o := by
  have q : ∀ (u : World) (i : Nat) (v : Value), u.heap.size = w.heap.size → (u.alloc o).setCell ⟨g, i, none⟩ v = (u.setCell ⟨g, i, none⟩ v).alloc o := fun u i v hu => World.setCell_alloc_past o g i v (by omega)
  unfold set4
  rw [q _ _ _ rfl, q _ _ _ (by simp), q _ _ _ (by simp), q _ _ _ (by simp)]
theorem NS.list {w wr : World} {g : Nat} {J : JV} {cs : List Value} (h : NS w wr g J cs) :
    NS w ((set4 wr g (.int .i64 6) (.string ⟨#[]⟩) (.slice none 0 0) (.slice (some ⟨wr.heap.size, 0, none⟩) 1 1)).alloc (.cells cs.toArray TV)) g (.mk 6 [] [] [J]) [.int .i64 6, .string ⟨#[]⟩, .slice none 0 0, .slice (some ⟨wr.heap.size, 0, none⟩) 1 1] := by
  obtain ⟨k, t, A, n, c, A', n', c', rfl⟩ := h.vr.four
  have hg := h.blk.lt
  rw [← set4_alloc wr _ hg]
  have hk : ∀ (u : World) (j : Nat), g < j → (set4 u g (.int .i64 6) (.string ⟨#[]⟩) (.slice none 0 0) (.slice (some ⟨wr.heap.size, 0, none⟩) 1 1)).heap[j]? = u.heap[j]? := fun u j hj => set4_heap u (by omega) _ _ _ _
  have h1 : VRd (wr.alloc (.cells #[.int .i64 k, .string t, .slice A n c, .slice A' n' c'] TV)) (fun j => g < j) J [.int .i64 k, .string t, .slice A n c, .slice A' n' c'] :=
    VRd.keep (F := fun j => g < j ∧ j < wr.heap.size) (fun j hj => (al_below wr _).block j hj.2) (fun j hj => hj.1) _ _ h.vr.lt
  refine ⟨set4_below (bal h.bel _) h.le _ _ _ _, set4_blk (h.blk.alloc _) _ _ _ _, ?_, h.le⟩
  obtain ⟨q1, q2⟩ := vrd_one (g2 := wr.heap.size) (Blk.new wr TV _) hg h1
  unfold VRd
  exact ⟨none, 0, 0, _, 1, 1, _, rfl, rfl, ⟨Nat.le_refl _, by decide⟩, no_cells, rfl, ⟨Nat.le_refl _, by decide⟩, q1.keep (hk _) (fun _ h => h), VRdL.keep (hk _) (fun _ h => h) _ _ q2⟩
theorem NS.obj {w wr : World} {g : Nat} {J : JV} {cs : List Value} (h : NS w wr g J cs) :
    NS w (((set4 wr g (.int .i64 7) (.string ⟨#[]⟩) (.slice (some ⟨wr.heap.size, 0, none⟩) 1 1) (.slice (some ⟨wr.heap.size + 1, 0, none⟩) 1 1)).alloc (.cells #[.string ⟨#[97]⟩] TSt)).alloc (.cells cs.toArray TV)) g (.mk 7 [] [[97]] [J]) [.int .i64 7, .string ⟨#[]⟩, .slice (some ⟨wr.heap.size, 0, none⟩) 1 1, .slice (some ⟨wr.heap.size + 1, 0, none⟩) 1 1] := by
  obtain ⟨k, t, A, n, c, A', n', c', rfl⟩ := h.vr.four
  have hg := h.blk.lt
  rw [← set4_alloc wr _ hg, ← set4_alloc (wr.alloc _) _ (by simp; omega)]
  obtain ⟨w1, hw1⟩ : ∃ x, wr.alloc (.cells #[.string ⟨#[97]⟩] TSt) = x := ⟨_, rfl⟩
  have hb1 : Below wr.heap.size wr w1 := hw1 ▸ al_below wr _
  have hs1 : w1.heap.size = wr.heap.size + 1 := by rw [← hw1]; simp
  have hB1 : Blk w1 wr.heap.size TSt #[.string ⟨#[97]⟩] := hw1 ▸ Blk.new _ _ _
  rw [hw1]
  have hk : ∀ (u : World) (j : Nat), g < j → (set4 u g (.int .i64 7) (.string ⟨#[]⟩) (.slice (some ⟨wr.heap.size, 0, none⟩) 1 1) (.slice (some ⟨wr.heap.size + 1, 0, none⟩) 1 1)).heap[j]? = u.heap[j]? := fun u j hj => set4_heap u (by omega) _ _ _ _
  have hb2 : Below wr.heap.size wr (w1.alloc (.cells #[.int .i64 k, .string t, .slice A n c, .slice A' n' c'] TV)) := bal hb1 _
  have h1 : VRd (w1.alloc (.cells #[.int .i64 k, .string t, .slice A n c, .slice A' n' c'] TV)) (fun j => g < j) J [.int .i64 k, .string t, .slice A n c, .slice A' n' c'] :=
    VRd.keep (F := fun j => g < j ∧ j < wr.heap.size) (fun j hj => hb2.block j hj.2) (fun j hj => hj.1) _ _ h.vr.lt
  have hbk : Blk (w1.alloc (.cells #[.int .i64 k, .string t, .slice A n c, .slice A' n' c'] TV)) (wr.heap.size + 1) TV #[.int .i64 k, .string t, .slice A n c, .slice A' n' c'] := hs1 ▸ Blk.new w1 TV _
  refine ⟨set4_below (h.bel.trans (hb2.mono h.bel.size)) h.le _ _ _ _, set4_blk (h.blk.below hb2 hg) _ _ _ _, ?_, h.le⟩
  obtain ⟨q1, q2⟩ := vrd_one (F := fun j => g < j) (g2 := wr.heap.size + 1) hbk (by show g < wr.heap.size + 1; omega) h1
  have q0 : ReadsF (w1.alloc (.cells #[.int .i64 k, .string t, .slice A n c, .slice A' n' c'] TV)) (fun j => g < j) 1 (some ⟨wr.heap.size, 0, none⟩) 1 (sc [[97]]) := by
    refine ⟨rfl, fun _ => ⟨_, rfl, hg, fun j u hu => ?_⟩⟩
    have e := (hB1.alloc (.cells #[.int .i64 k, .string t, .slice A n c, .slice A' n' c'] TV)).cell j
    rw [show (⟨wr.heap.size, 0, none⟩ : Addr).add j = ⟨wr.heap.size, j, none⟩ by simp [Addr.add]; exact fun h => h.symm, e]
    simpa [sc, bstr] using hu
  unfold VRd
  exact ⟨_, 1, 1, _, 1, 1, _, rfl, rfl, ⟨Nat.le_refl _, by decide⟩, q0.keep (hk _) (fun _ h => h), rfl, ⟨Nat.le_refl _, by decide⟩, q1.keep (hk _) (fun _ h => h), VRdL.keep (hk _) (fun _ h => h) _ _ q2⟩
theorem parse_bad {w : World} {A : Option Addr} {n c : Nat} {l p : L8} {e0 : Nat} (hr : RB w w.heap.size A n l) (hc : n ≤ c) (hT : Tabs w) (hA : ∀ ad, A = some ad → ad.block < w.heap.size) (hp : parseS l = .bad p e0) :
    Calls Tryd.prog 10 #[.slice A n c] w fun e w' => e = .returned (.tuple #[.agg #[.int .i64 0, .string ⟨#[]⟩, .slice none 0 0, .slice none 0 0], .int .i64 ((n - p.length : Nat) : Int), .int .i64 (e0 : Int)]) ∧ Below w.heap.size w w' := by
  refine (parse_to hr hc hT hA).mono ?_
  rintro e w' ⟨hb, hq⟩
  rcases hq with ⟨J, cs, h1, _⟩ | ⟨p', e1, h1, _, rfl⟩
  · rw [hp] at h1
    cases h1
  · rw [hp] at h1
    injection h1 with h1 h2
    subst h1 h2
    exact ⟨rfl, hb⟩
set_option maxRecDepth 100000 in
set_option maxHeartbeats 2000000 in
theorem jdeep_any (w : World) (x : Nat) (o : Bool) (hx : x < 256) (hT : Tabs w) :
    Calls Tryd.prog 7 #[.int .u8 (x : Int), .bool o] w fun e w' => e = .returned (.bool true) ∧ Below w.heap.size w w' := by
  have HT := hide hT
  clear hT
  go_enter Tryd.func7, Tryd.ntmps7
  go_upto_region 2 with fail
  obtain ⟨k, hk⟩ : ∃ k, x % 70 = k := ⟨_, rfl⟩
  have ek : (x : Int) % 70 = (k : Int) := by omega
  have hk70 : k < 70 := by omega
  rw [ek]
  clear ek hk
  by_cases hk0 : k = 0
  · subst hk0
    go_wp2_with (first | (go_at_call 9; (refine (answers_any w1 (HT.out.below HB1.out)).mono ?_); rintro e w2 ⟨rfl, hb⟩; have HB2 := hide (HB1.out.trans (hb.mono HB1.out.size)); clear hb) | (go_at_call 9; (refine (answers_any w HT.out).mono ?_); rintro e w1 ⟨rfl, hb⟩; have HB1 := hide hb; clear hb))
    go_ret
    exact ⟨rfl, HB2.out⟩
  have d0 : ((k : Int) == 0) = false := by simp; omega
  go_upto_region 5 with (go_at_call 9; (refine (answers_any w HT.out).mono ?_); rintro e w1 ⟨rfl, hb⟩; have HB1 := hide hb; clear hb)
  clear d0
  go_upto_region 6 with fail
  obtain ⟨w2, hw2⟩ : ∃ y, w1.alloc (.cells #[.int .i64 6, .string ⟨#[]⟩, .slice none 0 0, .slice none 0 0] TV) = y := ⟨_, rfl⟩
  obtain ⟨g, hg⟩ : ∃ g, w1.heap.size = g := ⟨_, rfl⟩
  have HN := hide (show NS w w2 g (nestJ o 0) [.int .i64 6, .string ⟨#[]⟩, .slice none 0 0, .slice none 0 0] from
    ⟨hw2 ▸ bal HB1.out _, hg ▸ hw2 ▸ Blk.new _ _ _, vrd_leaf 6 [], hg ▸ HB1.out.size⟩)
  rw [hg, hw2]
  clear hw2 hg HB1
  go_wp2_with fail
  go_loopw [6, 8] (fun bv iv wr => ∃ (j : Nat) (cs : List Value), iv = .int .i64 ((j + 1 : Nat) : Int) ∧ bv = .string ⟨(repS (preS o) j).toArray⟩ ∧ j + 1 ≤ k ∧ Hid (NS w wr g (nestJ o j) cs)) (fun _ iv _ => k - (intOf iv).toNat)
  case atStart => exact ⟨0, _, by go_num, rfl, by omega, HN⟩
  case round =>
    clear HN
    obtain ⟨j, cs, rfl, rfl, hj, HN⟩ := hrel
    obtain ⟨b, hb⟩ : ∃ b, repS (preS o) j = b := ⟨_, rfl⟩
    have hbl : b.length ≤ 345 := by
      rw [← hb, repS_len]
      have : (preS o).length ≤ 5 := by cases o <;> decide
      have h2 : j * (preS o).length ≤ j * 5 := Nat.mul_le_mul_left j this
      omega
    have HBB := hide hb
    rw [hb]
    clear hb
    by_cases hlt : j + 1 < k
    · have HN' := HN
      clear HN
      obtain ⟨v0, v1, v2, v3, v4, v5, v6, v7, rfl⟩ := HN'.out.vr.four
      have kv := HN'.out.blk.cell; have fv := HN'.out.blk.frozen; have zv := HN'.out.blk.lt
      cases o
      · have hcat : (⟨b.toArray⟩ ++ ⟨#[91]⟩ : ByteArray) = ⟨(repS (preS false) (j + 1)).toArray⟩ := by rw [show (⟨#[91]⟩ : ByteArray) = ⟨([91] : L8).toArray⟩ from rfl, ba_app, ← HBB.out]; rfl
        go_upto_region 8 with fail
        obtain ⟨w3, hw3⟩ : ∃ y, (set4 wr g (.int .i64 6) (.string ⟨#[]⟩) (.slice none 0 0) (.slice (some ⟨wr.heap.size, 0, none⟩) 1 1)).alloc (.cells #[.int .i64 v0, .string v1, .slice v2 v3 v4, .slice v5 v6 v7] TV) = y := ⟨_, rfl⟩
        have HN2 := hide (hw3 ▸ HN'.out.list)
        refine id (show Code.wp _ _ _ _ ((set4 wr g (.int .i64 6) (.string ⟨#[]⟩) (.slice none 0 0) (.slice (some ⟨wr.heap.size, 0, none⟩) 1 1)).alloc (.cells #[.int .i64 v0, .string v1, .slice v2 v3 v4, .slice v5 v6 v7] TV)) from ?_)
        rw [hw3]
        clear kv fv zv HN' HBB hw3
        go_wp2_with fail
        go_roundw
        case rel => exact ⟨j + 1, _, by go_num, by trivial, by omega, HN2⟩
        case measure => simp [intOf]; omega
      · have hcat : (⟨b.toArray⟩ ++ ⟨#[123, 34, 97, 34, 58]⟩ : ByteArray) = ⟨(repS (preS true) (j + 1)).toArray⟩ := by rw [show (⟨#[123, 34, 97, 34, 58]⟩ : ByteArray) = ⟨([123, 34, 97, 34, 58] : L8).toArray⟩ from rfl, ba_app, ← HBB.out]; rfl
        go_upto_region 8 with fail
        obtain ⟨w3, hw3⟩ : ∃ y, ((set4 wr g (.int .i64 7) (.string ⟨#[]⟩) (.slice (some ⟨wr.heap.size, 0, none⟩) 1 1) (.slice (some ⟨wr.heap.size + 1, 0, none⟩) 1 1)).alloc (.cells #[.string ⟨#[97]⟩] TSt)).alloc (.cells #[.int .i64 v0, .string v1, .slice v2 v3 v4, .slice v5 v6 v7] TV) = y := ⟨_, rfl⟩
        have HN2 := hide (hw3 ▸ HN'.out.obj)
        refine id (show Code.wp _ _ _ _ (((set4 wr g (.int .i64 7) (.string ⟨#[]⟩) (.slice (some ⟨wr.heap.size, 0, none⟩) 1 1) (.slice (some ⟨wr.heap.size + 1, 0, none⟩) 1 1)).alloc (.cells #[.string ⟨#[97]⟩] TSt)).alloc (.cells #[.int .i64 v0, .string v1, .slice v2 v3 v4, .slice v5 v6 v7] TV)) from ?_)
        rw [hw3]
        clear kv fv zv HN' HBB hw3
        go_wp2_with fail
        go_roundw
        case rel => exact ⟨j + 1, _, by go_num, by trivial, by omega, HN2⟩
        case measure => simp [intOf]; omega
    · obtain rfl : k = j + 1 := by omega
      have hcat : (⟨b.toArray⟩ ++ ⟨#[91, 93]⟩ : ByteArray) = ⟨(b ++ ([91, 93] ++ repS [clsO o] 0)).toArray⟩ := by rw [show (⟨#[91, 93]⟩ : ByteArray) = ⟨([91, 93] : L8).toArray⟩ from rfl, ba_app]; rfl
      go_wp2_with fail
      clear hcat
      go_loopw [6, 10] (fun bv iv wq => ∃ (i : Nat), iv = .int .i64 ((i + 1 : Nat) : Int) ∧ bv = .string ⟨(b ++ ([91, 93] ++ repS [clsO o] i)).toArray⟩ ∧ i + 1 ≤ j + 1 ∧ wq = wr) (fun _ iv _ => j + 1 - (intOf iv).toNat)
      case atStart => exact ⟨0, by go_num, by trivial, by omega, rfl⟩
      case round =>
        obtain ⟨i, rfl, rfl, hi, rfl⟩ := hrel
        obtain ⟨b2, hb2⟩ : ∃ b2, b ++ ([91, 93] ++ repS [clsO o] i) = b2 := ⟨_, rfl⟩
        have hbl2 : b2.length ≤ 500 := by rw [← hb2, List.length_append, List.length_append, repS_len]; simp; omega
        have HB2 := hide hb2
        rw [hb2]
        clear hb2
        by_cases hlt2 : i + 1 < j + 1
        · have hnx : b2 ++ [clsO o] = b ++ ([91, 93] ++ repS [clsO o] (i + 1)) := by rw [← HB2.out]; simp [repS]
          cases o
          · have hcat : (⟨b2.toArray⟩ ++ ⟨#[93]⟩ : ByteArray) = ⟨(b ++ ([91, 93] ++ repS [clsO false] (i + 1))).toArray⟩ := by rw [show (⟨#[93]⟩ : ByteArray) = ⟨([93] : L8).toArray⟩ from rfl, ba_app, ← hnx]; rfl
            clear hnx
            go_wp2_with fail
            go_roundw
            case rel => exact ⟨i + 1, by go_num, by trivial, by omega, by trivial⟩
            case measure => simp [intOf]; omega
          · have hcat : (⟨b2.toArray⟩ ++ ⟨#[125]⟩ : ByteArray) = ⟨(b ++ ([91, 93] ++ repS [clsO true] (i + 1))).toArray⟩ := by rw [show (⟨#[125]⟩ : ByteArray) = ⟨([125] : L8).toArray⟩ from rfl, ba_app, ← hnx]; rfl
            clear hnx
            go_wp2_with fail
            go_roundw
            case rel => exact ⟨i + 1, by go_num, by trivial, by omega, by trivial⟩
            case measure => simp [intOf]; omega
        · obtain rfl : i = j := by omega
          have HBB2 := hide (show b2 = nestT o i from by rw [← HB2.out, ← HBB.out]; rfl)
          have HBL := hide (show b.length = i * (preS o).length from by rw [← HBB.out, repS_len])
          clear HB2 HBB
          obtain ⟨w4, hw4⟩ : ∃ y, Lib.bytesWorld wr T8 ⟨b2.toArray⟩ = y := ⟨_, rfl⟩
          have hcx : (convert 9 22 (.string ⟨b2.toArray⟩)).run Tryd.prog wr = .ok (.slice (some ⟨wr.heap.size, 0, none⟩) b2.length (grownCap wr b2.length 0 T8)) w4 := hw4 ▸ conv_run b2 wr
          have HR4 := hide (show RB w4 w4.heap.size (some ⟨wr.heap.size, 0, none⟩) b2.length b2 from hw4 ▸ conv_rb b2 wr)
          have HK4 := hide (conv_cap b2 wr)
          have HN4 := hide (show Below wr.heap.size wr w4 from hw4 ▸ conv_below b2 wr)
          have HA4 := hide (show ∀ ad : Addr, (some (⟨wr.heap.size, 0, none⟩ : Addr)) = some ad → ad.block < w4.heap.size from hw4 ▸ conv_lt b2 wr)
          have HB4 := hide (HN.out.bel.trans (HN4.out.mono HN.out.bel.size))
          have HT4 := hide (HT.out.below HB4.out)
          have HC4 := hide (HN.out.blk.below HN4.out HN.out.blk.lt)
          have HV4 := hide ((HN.out.vr.all).later HN4.out)
          clear hw4
          obtain ⟨v0, v1, v2, v3, v4, v5, v6, v7, rfl⟩ := HN.out.vr.four
          obtain ⟨n2, hn2⟩ : ∃ n2, b2.length = n2 := ⟨_, rfl⟩
          have HN2 := hide hn2
          rw [hn2] at hcx HR4 HK4 hbl2
          clear hn2 HN HN4
          by_cases h32 : i < 32
          · have HPB := hide (parse_nest (o := o) h32)
            have HPE := hide (show prE (nestJ o i) = 0 from by rw [prE_nest o i (by omega), if_pos h32])
            have HPR := hide (show prR (nestJ o i) = b2 from by unfold prR; rw [HPE.out, if_pos rfl, prJ_nest, HBB2.out])
            go_upto_region 23 with (go_at_call 10; (refine (parse_uni HR4.out HK4.out HT4.out HA4.out).mono ?_); (rw [show parseS b2 = .ok (nestJ o i) from by rw [HBB2.out]; exact HPB.out]); rintro e w5 ⟨hb, kw, tw, A1w, n1w, c1w, A2w, n2w, c2w, atw, rfl, hv⟩; have HB5 := hide (HB4.out.trans (hb.mono HB4.out.size)); have HC5 := hide (HC4.out.below hb HC4.out.lt); have HV5 := hide (HV4.out.later hb); have HVw := hide hv; clear hb hv)
            obtain ⟨w6, hw6⟩ : ∃ x, w5.alloc (.cells #[.int .i64 kw, .string tw, .slice A1w n1w c1w, .slice A2w n2w c2w] TV) = x := ⟨_, rfl⟩
            have HB6 := hide (show Below w.heap.size w w6 from hw6 ▸ bal HB5.out _)
            have HN6 := hide (show Below w5.heap.size w5 w6 from hw6 ▸ al_below w5 _)
            have HC6 := hide (HC5.out.below HN6.out HC5.out.lt)
            have HV6 := hide (HV5.out.later HN6.out)
            have HCw := hide (show Blk w6 w5.heap.size TV #[.int .i64 kw, .string tw, .slice A1w n1w c1w, .slice A2w n2w c2w] from hw6 ▸ Blk.new _ _ _)
            have HVw6 := hide (show VRd w6 (fun j => j < w6.heap.size) (nestJ o i) _ from HVw.out.later HN6.out)
            have HT6 := hide (HT.out.below HB6.out)
            rw [hw6]
            clear hw6 HN6 HC4 HC5 HV4 HV5 HVw HR4 HA4 HK4 hcx
            have kv := HC6.out.cell; have fv := HC6.out.frozen; have zv := HC6.out.lt
            go_upto_region 24 with (first | (go_at_call 13; (refine (print_any (smJ_nest o i) HT7.out HJ7.out).mono ?_); (rw [HPE.out, HPR.out]); rintro e w8 ⟨hb, A3, n3, c3, rfl, hc3, hA3, hr3⟩; have HB8 := hide (HB7.out.trans (hb.mono HB7.out.size)); have HR8 := hide hr3; have HC8 := hide (HC7.out.below hb HC7.out.lt); have HV8 := hide (HV7.out.later hb); have HCw8 := hide (HCw7.out.below hb HCw7.out.lt); have HVw8 := hide (HVw7.out.later hb); clear hb hr3 hA3) | (go_at_call 14; (refine (own_any (bdJ_nest o i) HV6.out).mono ?_); rintro e w7 ⟨cs2, rfl, hv, hb⟩; have HB7 := hide (HB6.out.trans (hb.mono HB6.out.size)); have HT7 := hide (HT.out.below HB7.out); have HJ7 := hide hv; have HC7 := hide (HC6.out.below hb HC6.out.lt); have HV7 := hide (HV6.out.later hb); have HCw7 := hide (HCw.out.below hb HCw.out.lt); have HVw7 := hide (HVw6.out.later hb); clear hb hv))
            clear kv fv zv HC6 HV6 HCw HVw6 HC7 HV7 HCw7 HVw7 HJ7 HT7 HT6 HPB
            have d32 : decide ((i : Int) + 1 ≤ 32) = true := by simp; omega
            have kv := HC8.out.cell; have fv := HC8.out.frozen; have zv := HC8.out.lt
            have kw8 := HCw8.out.cell; have fw8 := HCw8.out.frozen; have zw8 := HCw8.out.lt
            go_upto_region 25 with fail
            go_wp2_with (go_at_call 11; (refine (same_any HV8.out HVw8.out).mono ?_); rintro e w9 ⟨rfl, hb⟩; (rw [eqJ_refl]); have HB9 := hide (HB8.out.trans (hb.mono HB8.out.size)); have hca := convert_any (c := c3) ((HR8.out.below hb).more hb.size); unfold bstr at hca; clear hb)
            go_ret
            exact ⟨rfl, HB9.out⟩
          · obtain ⟨p, hp, hpl⟩ := parse_deep (o := o) (Nat.le_of_not_lt h32) (show i < 70 by omega)
            have HPB := hide hp
            have HPL := hide hpl
            have HPE := hide (show prE (nestJ o i) = 2 from by rw [prE_nest o i (by omega), if_neg h32])
            have hlen : b2.length - p.length = 32 * (preS o).length := by rw [HBB2.out, hpl]; have := nestT_len o i; have h3 : 32 * (preS o).length ≤ i * (preS o).length := Nat.mul_le_mul_right _ (by omega); omega
            have HLN := hide hlen
            clear hp hpl hlen
            cases o
            · have hat : n2 - p.length = 32 := by have := HLN.out; rw [HN2.out] at this; exact this
              have hbn : b.length = i * (32 / 32) := HBL.out
              have h32' : 32 ≤ i := Nat.le_of_not_lt h32
              have dat : decide ((b.length : Int) < 32) = false := by simp; omega
              have d32 : decide ((i : Int) + 1 ≤ 32) = false := by simp; omega
              have HAT := hide hat
              have HBN := hide hbn
              clear hat hbn
              go_upto_region 23 with (go_at_call 10; (refine (parse_bad HR4.out HK4.out HT4.out HA4.out (show parseS b2 = .bad p 12 from by rw [HBB2.out]; exact HPB.out)).mono ?_); (rw [HAT.out]); rintro e w5 ⟨rfl, hb⟩; have HB5 := hide (HB4.out.trans (hb.mono HB4.out.size)); have HC5 := hide (HC4.out.below hb HC4.out.lt); have HV5 := hide (HV4.out.later hb); clear hb)
              obtain ⟨w6, hw6⟩ : ∃ x, w5.alloc (.cells #[.int .i64 0, .string ⟨#[]⟩, .slice none 0 0, .slice none 0 0] TV) = x := ⟨_, rfl⟩
              have HB6 := hide (show Below w.heap.size w w6 from hw6 ▸ bal HB5.out _)
              have HN6 := hide (show Below w5.heap.size w5 w6 from hw6 ▸ al_below w5 _)
              have HC6 := hide (HC5.out.below HN6.out HC5.out.lt)
              have HV6 := hide (HV5.out.later HN6.out)
              rw [hw6]
              clear hw6 HN6 HC4 HC5 HV4 HV5 HR4 HA4 HK4 hcx
              have kv := HC6.out.cell; have fv := HC6.out.frozen; have zv := HC6.out.lt
              go_upto_region 24 with (first | (go_at_call 13; (refine (print_any (smJ_nest false i) HT7.out HJ7.out).mono ?_); (rw [HPE.out]); rintro e w8 ⟨hb, A3, n3, c3, rfl, hc3, hA3, hr3⟩; have HB8 := hide (HB7.out.trans (hb.mono HB7.out.size)); clear hb hr3 hA3) | (go_at_call 14; (refine (own_any (bdJ_nest false i) HV6.out).mono ?_); rintro e w7 ⟨cs2, rfl, hv, hb⟩; have HB7 := hide (HB6.out.trans (hb.mono HB6.out.size)); have HT7 := hide (HT.out.below HB7.out); have HJ7 := hide hv; clear hb hv))
              clear kv fv zv
              go_wp2_with fail
              go_ret
              exact ⟨rfl, HB8.out⟩
            · have hat : n2 - p.length = 160 := by have := HLN.out; rw [HN2.out] at this; exact this
              have hbn : b.length = i * (160 / 32) := HBL.out
              have h32' : 32 ≤ i := Nat.le_of_not_lt h32
              have dat : decide ((b.length : Int) < 160) = false := by simp; omega
              have d32 : decide ((i : Int) + 1 ≤ 32) = false := by simp; omega
              have HAT := hide hat
              have HBN := hide hbn
              clear hat hbn
              go_upto_region 23 with (go_at_call 10; (refine (parse_bad HR4.out HK4.out HT4.out HA4.out (show parseS b2 = .bad p 12 from by rw [HBB2.out]; exact HPB.out)).mono ?_); (rw [HAT.out]); rintro e w5 ⟨rfl, hb⟩; have HB5 := hide (HB4.out.trans (hb.mono HB4.out.size)); have HC5 := hide (HC4.out.below hb HC4.out.lt); have HV5 := hide (HV4.out.later hb); clear hb)
              obtain ⟨w6, hw6⟩ : ∃ x, w5.alloc (.cells #[.int .i64 0, .string ⟨#[]⟩, .slice none 0 0, .slice none 0 0] TV) = x := ⟨_, rfl⟩
              have HB6 := hide (show Below w.heap.size w w6 from hw6 ▸ bal HB5.out _)
              have HN6 := hide (show Below w5.heap.size w5 w6 from hw6 ▸ al_below w5 _)
              have HC6 := hide (HC5.out.below HN6.out HC5.out.lt)
              have HV6 := hide (HV5.out.later HN6.out)
              rw [hw6]
              clear hw6 HN6 HC4 HC5 HV4 HV5 HR4 HA4 HK4 hcx
              have kv := HC6.out.cell; have fv := HC6.out.frozen; have zv := HC6.out.lt
              go_upto_region 24 with (first | (go_at_call 13; (refine (print_any (smJ_nest true i) HT7.out HJ7.out).mono ?_); (rw [HPE.out]); rintro e w8 ⟨hb, A3, n3, c3, rfl, hc3, hA3, hr3⟩; have HB8 := hide (HB7.out.trans (hb.mono HB7.out.size)); clear hb hr3 hA3) | (go_at_call 14; (refine (own_any (bdJ_nest true i) HV6.out).mono ?_); rintro e w7 ⟨cs2, rfl, hv, hb⟩; have HB7 := hide (HB6.out.trans (hb.mono HB6.out.size)); have HT7 := hide (HT.out.below HB7.out); have HJ7 := hide hv; clear hb hv))
              clear kv fv zv
              go_wp2_with fail
              go_ret
              exact ⟨rfl, HB8.out⟩
end Go.Proofs.YtmbjalcphdggnaaDoor
