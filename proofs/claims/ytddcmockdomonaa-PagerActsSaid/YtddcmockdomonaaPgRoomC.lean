/- PagerRoom: the walk. -/
import Derived.Test.YtddcmockdomonaaPgRoomB
namespace Go.Proofs.Ytddcmockdomonaa
set_option linter.unusedSimpArgs false
set_option linter.unusedVariables false
open Go.RowKit
def lenOf : Value → Nat
  | .slice _ n _ => n
  | _ => 0
theorem rm_in {w wr : World} {pb sb db n : Nat} {V : Value} {xs ys : List Nat} (h : RmI w wr pb sb db n V xs ys) : wr.ownsRow w.heap.size TI 1 V ys.length (ints ys) ∧ Below w.heap.size w wr := by
  obtain ⟨F, S, L, frm, st, hp, hroom, hone, hnd, hin, hV, hVF, hb, hF⟩ := h
  exact ⟨hV, hb⟩
theorem rm_range {w wr : World} {pb sb db n : Nat} {V : Value} {xs ys : List Nat} (h : RmI w wr pb sb db n V xs ys) : ∀ x ∈ xs, 2 ≤ x ∧ x < n := by
  obtain ⟨F, S, L, frm, st, hp, hroom, hone, hnd, hin, hV, hVF, hb, hF⟩ := h
  exact fun x hx => ⟨(hin x hx).1, (hin x hx).2.1⟩
theorem rm_le {w wr : World} {pb sb db n : Nat} {V : Value} {xs ys : List Nat} (h : RmI w wr pb sb db n V xs ys) : xs.length ≤ n - 2 := by
  obtain ⟨F, S, L, frm, st, hp, hroom, hone, hnd, hin, hV, hVF, hb, hF⟩ := h
  omega
theorem rt_flip0 {w wr : World} {pb sb db n q : Nat} {V : Value} {xs : List Nat} {P : Cn → Prop} (h : RmT w wr pb sb db n q V xs P) (hq : q < 1000) (hpb : w.heap.size ≤ pb) (hsb : w.heap.size ≤ sb) :
    Calls Try.prog 11 #[.pointer (some ⟨pb, 0, none⟩), .int .i64 0] wr fun e w' => e = .returned (.int .i64 0) ∧ RmT w w' pb sb db n (q + 1) V xs (fun st' => ∃ st, st.length = n ∧ P st ∧ st' = st.map flipU) := rt_flip h 0 hq (fun _ _ _ => rfl) hpb hsb
theorem rt_free' {w wr : World} {pb sb db n q k : Nat} {xs : List Nat} {P : Cn → Prop} {A : Option Addr} {c : Nat} (hk : xs.length = k) (h : RmT w wr pb sb db n q (.slice A k c) xs P) (hin : ∀ x ∈ xs, 2 ≤ x ∧ x < n) (hx : k ≤ 200000) (hsb : w.heap.size ≤ sb) :
    Calls Try.prog 15 #[.pointer (some ⟨pb, 0, none⟩), .slice A k c] wr fun e w' => e = .returned (.int .i64 0) ∧ RmT w w' pb sb db n q (.slice A k c) xs (fun st' => ∃ st, st.length = n ∧ P st ∧ st' = (xs.map (fun (x : Nat) => (x : Int))).foldl (updN freeU) st) := by
  subst hk
  exact rt_free h hin hx hsb
theorem root_one {n y : Nat} {xs : List Nat} (hy : y ∈ xs) : ∀ st : Cn, st.length = n → (st.length = n ∧ allSt n 1 xs st) → rootOk n st y = true := fun st _ h => by
  obtain ⟨_, _, _, _, hin⟩ := h
  have := hin y hy
  unfold rootOk
  rw [this.2.2]
  have e : pgB n (y : Int) = true := by unfold pgB; simp; omega
  rw [e]
  simp
theorem add0 (ad : Addr) : ad.add 0 = ad := by
  unfold Addr.add
  split
  · cases ad; simp_all
  · cases ad; simp_all
set_option maxRecDepth 100000 in
set_option maxHeartbeats 2000000 in
theorem room_law (t : Int) (fl : Bool) (w : World) (ht : 0 ≤ t ∧ t < 256) : Calls Try.prog 4 #[.int .u8 t, .bool fl] w fun e w' => e = .returned (.bool true) ∧ Below w.heap.size w w' := by
  obtain ⟨i0, hi0, hz0, hz1, hz2⟩ := info_parts int_info
  obtain ⟨T, hT⟩ : ∃ T : Nat, t % 60 = T := ⟨(t % 60).toNat, by omega⟩
  have hT60 : T < 60 := by omega
  have htm : t.tmod 60 = (T : Int) := by rw [Int.tmod_eq_emod_of_nonneg ht.1]; exact hT
  obtain ⟨m, hm⟩ : ∃ m : Nat, m = T + 2 := ⟨_, rfl⟩
  obtain ⟨n, hn⟩ : ∃ n : Nat, n = T + 4 := ⟨_, rfl⟩
  have hnI : (T : Int) + 4 = (n : Int) := by omega
  have hmI : (n : Int) - 2 = (m : Int) := by omega
  have hnm : n - 2 = m := by omega
  have HNM := hide hnm
  have HN := hide (show 1 ≤ (n : Int) ∧ (n : Int) ≤ 65536 by omega)
  have HN4 := hide (show 4 ≤ n by omega)
  have HZR := hide (show roomN (zeroSt n) = m by rw [zero_room]; exact hnm)
  have hn70 : n ≤ 70 := by omega
  have hm4 : 2 ≤ m := by omega
  have hmn : m < n := by omega
  clear hT60 hn hm hnm
  go_enter Try.func4, Try.ntmps4
  go_wp2_with (first | (go_at_call 14; (refine (proom HP3.out).mono ?_); rw [HZR.out]; rintro e w4 ⟨rfl, hb⟩; have HP4 := hide (HP3.out.below hb); have HB4 := hide (HB3.out.trans (hb.mono HB3.out.size)); clear hb) | (go_at_call 9; (refine (answers_any w2).mono ?_); rintro e w3 ⟨rfl, hb⟩; have HP3 := hide (HP2.out.below hb); have HB3 := hide (HB2.out.trans (hb.mono HB2.out.size)); clear hb) | (go_at_call 8; (refine (popen_new (n := n) HS1.out HN4.out).mono ?_); rintro e w2 ⟨⟨pb, sb, rfl, hpb, hsb, hp⟩, hb⟩; have HP2 := hide hp; have HB2 := hide (HB1.out.trans (hb.mono HB1.out.size)); have HPB := hide (Nat.le_trans HB1.out.size hpb); have HSB := hide (Nat.le_trans HB1.out.size hsb); clear hp hb hpb hsb) | (go_at_call 7; (refine (sec_new (n : Int) w HN.out).mono ?_); rintro e w1 ⟨rfl, hs, hb⟩; have HS1 := hide hs; have HB1 := hide hb; clear hs hb))
  have HI0 := hide (show RmI w w4 pb sb (w.heap.size + 1) n (.slice none 0 0) [] [] from ⟨_, _, _, _, _, HP4.out, by rw [HZR.out, HNM.out]; rfl, by unfold cntP zeroSt; rw [List.drop_replicate, List.countP_replicate]; rfl, List.nodup_nil, (fun x h => by cases h), ⟨rfl, .inl ⟨rfl, rfl⟩⟩, (fun g h => by simp [Value.ownBlock] at h), HB4.out, fun j h => h.1⟩)
  clear HP2 HP3 HP4 HB1 HB2 HB3 HB4 HS1
  go_loopw [10] (fun V wr => ∃ xs : List Nat, lenOf V = xs.length ∧ Hid (RmI w wr pb sb (w.heap.size + 1) n V xs xs)) (fun V _ => n - lenOf V)
  case atStart => exact ⟨[], rfl, HI0⟩
  case round =>
    rename_i V
    obtain ⟨xs, hlv, HI⟩ := hrel
    obtain ⟨A, c, hV, -, -⟩ := rm_row HI.out
    subst hV
    have hle := rm_le HI.out
    rw [HNM.out] at hle
    obtain ⟨k, hk⟩ : ∃ k, xs.length = k := ⟨_, rfl⟩
    rw [hk] at hle
    have HK := hide hk
    by_cases hlt : k < m
    · obtain ⟨R, hR⟩ : ∃ R : Nat, n - 2 - xs.length = R := ⟨_, rfl⟩
      have hR0 : 0 < R := by have := HNM.out; omega
      have d1 : decide (0 < (R : Int)) = true := by simp; omega
      have hw8 : IntKind.u8.wrap (k : Int) = (k : Int) := by simp only [IntKind.wrap, IntKind.bits, IntKind.signed]; simp; omega
      have HRR := hide hR
      have HLT := hide (show xs.length < n - 2 by rw [hk, HNM.out]; exact hlt)
      have hk256 : k < 256 := by omega
      rw [hk]
      clear hR hk hlv
      go_wp2_with (first | (go_at_call 10; (refine (room_new HI6.out HLT.out HPB.out HSB.out k hk256 hn70).mono ?_); rintro e w7 ⟨a, rfl, ha, hi⟩; have HNA := hide ha; have HI7 := hide hi; clear ha hi) | (go_at_call 14; (refine (rm_room HI.out).mono ?_); rw [HRR.out]; rintro e w6 ⟨rfl, hi⟩; have HI6 := hide hi; clear hi))
      rw [HK.out] at HI7
      go_loopw [13] (fun iv wq => ∃ j : Nat, j ≤ k ∧ iv = .int .i64 j ∧ Hid (RmI w wq pb sb (w.heap.size + 1) n (.slice A k c) (xs ++ [a]) xs)) (fun iv _ => k - (intOf iv).toNat)
      case atStart => exact ⟨0, by omega, rfl, HI7⟩
      case round =>
        obtain ⟨j, hj, rfl, HJ⟩ := hrel
        by_cases hjk : j < k
        · obtain ⟨A', c', e, hnb, -⟩ := rm_row HJ.out
          injection e with e1 e2 e3
          subst e1
          obtain ⟨ad, rfl, hab, hac⟩ := hnb.at_ (k := j) (by rw [HK.out]; exact hjk) (by rw [List.length_map, HK.out]; exact hjk)
          rw [List.getElem_map] at hac
          have had : (ad.add j).block < wr.heap.size := by have e' : (ad.add j).block = ad.block := by { unfold Addr.add; split <;> rfl }; rw [e']; exact hab
          have hjx : j < xs.length := by rw [HK.out]; exact hjk
          obtain ⟨y, hy⟩ : ∃ y, xs[j]'hjx = y := ⟨_, rfl⟩
          have hya : ((y : Int) == (a : Int)) = false := by
            have : y ≠ a := fun e => HNA.out (by rw [← e, ← hy]; exact List.getElem_mem hjx)
            simp; omega
          rw [hy] at hac
          clear hy e2 e3 hnb
          go_wp2
          go_roundw
          case rel => exact ⟨j + 1, by omega, by go_num, HJ⟩
          case measure => simp [intOf]; omega
        · have e : j = k := by omega
          subst e
          have HROW := hide (show wr.ownsRow w.heap.size TI 1 (.slice A j c) j (ints xs) from by have := (rm_in HJ.out).1; rw [HK.out] at this; exact this)
          go_wp2_with (at_builtin; (refine wpList_append_any _ rfl (.tmp 79) (.tmp 81) _ rfl w.heap.size TI i0 _ 1 8 Try.underlying40 hi0 hz0 hz1 hz2 rfl (by omega) (.slice A j c) j (ints xs) rfl (own_later HROW.out (al_below _ _)) (wr.alloc (.cells #[.int .i64 (a : Int)] TI)).heap.size (some ⟨wr.heap.size, 0, none⟩) 1 1 [.int .i64 (a : Int)] rfl (NB.one _ (a : Int)) (by intro u hu; rw [List.mem_singleton] at hu; subst hu; rfl) (by unfold maxLen; omega) (by omega) (Nat.le_trans (rm_in HJ.out).2.size (al_below _ _).size) ?_); intro V' w8 ho hg hor; have HI8 := hide (room_append HJ.out (by rw [HK.out]; exact ho) hg hor); clear ho hg hor)
          go_roundw
          case rel =>
            obtain ⟨A2, c2, hV2, -, -⟩ := rm_row HI8.out
            exact ⟨xs ++ [a], by rw [hV2]; rfl, HI8⟩
          case measure =>
            obtain ⟨A2, c2, hV2, -, -⟩ := rm_row HI8.out
            rw [hV2]
            have := HK.out
            simp only [lenOf, List.length_append, List.length_singleton]
            omega
    · have e : k = m := by omega
      subst e
      have HF := hide (show xs.length = n - 2 by rw [HK.out, HNM.out])
      have HRZ := hide (show n - 2 - xs.length = 0 by rw [HK.out, HNM.out]; omega)
      have hk0 : ¬ (k : Int) = 0 := by omega
      have hk1 : ((k : Int) == 0) = false := by simp; omega
      rw [hk]
      rw [hk] at HI
      clear hk hlv
      cases fl
      · go_wp2_with (first | (go_at_call 14; (refine (rt_room HT13.out (k := k) (fun st' _ h => by obtain ⟨st, hl, ⟨st1, hl1, h1, e1⟩, e⟩ := h; rw [e, ← HNM.out]; exact plain_flip hl (by rw [e1]; exact plain_free hl1 h1.2))).mono ?_); rintro e w14 ⟨rfl, hi⟩; have HT14 := hide hi; clear hi) | (go_at_call 11; (refine (rt_flip0 HT12.out (by decide) HPB.out HSB.out).mono ?_); rintro e w13 ⟨rfl, hi⟩; have HT13 := hide hi; clear hi) | (go_at_call 14; (refine (rt_room HT11.out (k := k) (fun st' _ h => by obtain ⟨st, hl, h1, e⟩ := h; rw [e, ← HNM.out]; exact plain_free hl h1.2)).mono ?_); rintro e w12 ⟨rfl, hi⟩; have HT12 := hide hi; clear hi) | (go_at_call 14; (refine (rt_room HT10.out (k := k) (fun st' _ h => by obtain ⟨st, hl, h1, e⟩ := h; rw [e, ← HNM.out]; exact plain_free hl h1.2)).mono ?_); rintro e w11 ⟨rfl, hi⟩; have HT11 := hide hi; clear hi) | (go_at_call 15; (refine (rt_free' HK.out HT9.out (rm_range HI8.out) (by omega) HSB.out).mono ?_); rintro e w10 ⟨rfl, hi⟩; have HT10 := hide hi; clear hi) | (go_at_call 10; (refine (rm_full HI7.out HF.out HPB.out HSB.out hn70).mono ?_); rintro e w8 ⟨rfl, hi⟩; have HI8 := hide hi; have HT9 := hide (rm_start hi HF.out); clear hi) | (go_at_call 14; (refine (rm_room HI.out).mono ?_); rw [HRZ.out]; rintro e w7 ⟨rfl, hi⟩; have HI7 := hide hi; clear hi))
        go_ret
        exact ⟨rfl, rt_below HT14.out⟩
      · have hx0 : 0 < xs.length := by rw [HK.out]; omega
        obtain ⟨y, hy⟩ : ∃ y, xs[0]'hx0 = y := ⟨_, rfl⟩
        have HY := hide (show y ∈ xs from hy ▸ List.getElem_mem hx0)
        have HYC := hide (fun (wq : World) (A : Option Addr) (h : NB wq wq.heap.size A xs.length (xs.map (fun (x : Nat) => (x : Int)))) => show ∃ ad, A = some ad ∧ ad.block < wq.heap.size ∧ wq.cell? (ad.add 0) = some (.int .i64 (y : Int)) by
          obtain ⟨ad, e, h1, h2⟩ := h.at_ (k := 0) hx0 (by rw [List.length_map]; exact hx0)
          rw [List.getElem_map, hy] at h2
          exact ⟨ad, e, h1, h2⟩)
        clear hy hx0
        go_wp2_with (first | (go_at_call 14; (refine (rt_room HT14.out (k := k) (fun st' _ h => by obtain ⟨st, hl, ⟨st1, hl1, ⟨st0, hl0, h0, e0⟩, e1⟩, e⟩ := h; rw [e, e1, ← HNM.out]; exact (plain_part hl1 (by rw [e0]; exact plain_held hl0 h0.2)).2)).mono ?_); rintro e w15 ⟨rfl, hi⟩; have HT15 := hide hi; clear hi) | (go_at_call 11; (refine (rt_flip0 HT13.out (by decide) HPB.out HSB.out).mono ?_); rintro e w14 ⟨rfl, hi⟩; have HT14 := hide hi; clear hi) | (go_at_call 14; (refine (rt_room HT12.out (k := 0) (fun st' _ h => by obtain ⟨st1, hl1, ⟨st0, hl0, h0, e0⟩, e1⟩ := h; rw [e1]; exact (plain_part hl1 (by rw [e0]; exact plain_held hl0 h0.2)).1)).mono ?_); rintro e w13 ⟨rfl, hi⟩; have HT13 := hide hi; clear hi) | (go_at_call 14; (refine (rt_room HT11.out (k := 0) (fun st' _ h => by obtain ⟨st1, hl1, ⟨st0, hl0, h0, e0⟩, e1⟩ := h; rw [e1]; exact (plain_part hl1 (by rw [e0]; exact plain_held hl0 h0.2)).1)).mono ?_); rintro e w12 ⟨rfl, hi⟩; have HT12 := hide hi; clear hi) | (go_at_call 15; (refine (rt_free' HK.out HT10.out (rm_range HI8.out) (by omega) HSB.out).mono ?_); rintro e w11 ⟨rfl, hi⟩; have HT11 := hide hi; clear hi) | (go_at_call 11; (refine (rt_flip HT9.out y (by decide) (root_one HY.out) HPB.out HSB.out).mono ?_); rintro e w10 ⟨rfl, hi⟩; have HT10 := hide hi; clear hi) | (go_at_call 10; (refine (rm_full HI7.out HF.out HPB.out HSB.out hn70).mono ?_); rintro e w8 ⟨rfl, hi⟩; have HI8 := hide hi; have HT9 := hide (rm_start hi HF.out); (obtain ⟨A', c', e', hnb, -⟩ := rm_row hi); injection e' with e1 e2 e3; subst e1; (obtain ⟨ad, eA, hab, hac⟩ := HYC.out _ _ hnb); subst eA; have had : (ad.add 0).block < w8.heap.size := (by { have e' : (ad.add 0).block = ad.block := by { unfold Addr.add; split <;> rfl }; rw [e']; exact hab }); have hac0 : w8.cell? ad = some (.int .i64 (y : Int)) := (add0 ad) ▸ hac; clear hi hnb e2 e3) | (go_at_call 14; (refine (rm_room HI.out).mono ?_); rw [HRZ.out]; rintro e w7 ⟨rfl, hi⟩; have HI7 := hide hi; clear hi))
        go_ret
        exact ⟨rfl, rt_below HT15.out⟩
end Go.Proofs.Ytddcmockdomonaa
