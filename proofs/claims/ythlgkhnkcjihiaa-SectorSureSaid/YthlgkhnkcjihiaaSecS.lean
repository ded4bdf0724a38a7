/- The sectors' laws: acts 1, 2, 4; any act. -/
import Derived.Test.YthlgkhnkcjihiaaSecR
namespace Go.Proofs.Ythlgkhnkcjihiaa
set_option linter.unusedSimpArgs false
set_option linter.unusedVariables false
open Go.RowKit
theorem fr_blk {F : Nat → Prop} {w w' : World} {g : Nat} {t : TypeId} {cs : Array Value} (hf : Fr F w w') (hb : Blk w g t cs) (hn : ¬ F g) : Blk w' g t cs := (hf.block g hb.lt hn).trans hb
set_option maxRecDepth 100000 in
set_option maxHeartbeats 1000000 in
theorem act_4neg {w : World} {b bw : Nat} {F G : Nat → Prop} {size : Int} {s : SS} {r : RS} {N : Nat} (h : Two w b bw F G size s r N) (hN : N < 99000) (at_ fill mask : Int) (odd : Bool) (ha : at_ < 0) :
    Calls Try.prog 20 #[.pointer (some ⟨b, 0, none⟩), .pointer (some ⟨bw, 0, none⟩), .agg #[.int .i64 4, .int .i64 at_, .int .u8 fill, .bool odd, .int .u64 mask]] w (ActPost w b bw F G size s r N ⟨4, at_, fill, odd, mask⟩) := by
  obtain ⟨kind, hk⟩ : ∃ kind : Int, (4 : Int) = kind := ⟨_, rfl⟩
  rw [hk]
  have HT := hide h
  have HA := hide (h.below ((Below.refl w.heap.size w).alloc (Nat.le_refl _) (Obj.cells #[.int .i64 kind, .int .i64 at_, .int .u8 fill, .bool odd, .int .u64 mask] TA)))
  have HB0 := hide ((Below.refl w.heap.size w).alloc (Nat.le_refl _) (Obj.cells #[.int .i64 kind, .int .i64 at_, .int .u8 fill, .bool odd, .int .u64 mask] TA))
  have HK := hide (Blk.new w TA #[.int .i64 kind, .int .i64 at_, .int .u8 fill, .bool odd, .int .u64 mask])
  clear h
  have d1 : (kind == 1) = false := by simp; omega
  have d2 : (kind == 2) = false := by simp; omega
  have d3 : (kind == 3) = false := by simp; omega
  have d4 : (kind == 4) = true := by simp; omega
  have HKD := hide hk
  have HAN := hide ha
  have d5 : decide (at_ < 0) = true := by simpa using ha
  clear hk
  go_enter Try.func20, Try.ntmps20
  go_wp2_with (first | (go_at_call 15; (refine (limit_neg b at_ _ HAN.out).mono ?_); rintro e w1 ⟨rfl, hb1⟩; have H1 := hide (HA.out.below hb1); have HB1 := hide (HB0.out.trans (hb1.mono HB0.out.size)); have kx := ((HK.out.below hb1 HK.out.lt).cell 1); have zx := (HK.out.below hb1 HK.out.lt).lt; simp at kx; clear hb1))
  go_ret
  have hk := HKD.out
  subst hk
  have e1 : stS size ⟨4, at_, fill, odd, mask⟩ s = s := by unfold stS; simp [HAN.out]
  have e2 : stR size ⟨4, at_, fill, odd, mask⟩ r = r := by unfold stR; simp [HAN.out]
  refine ⟨⟨_, rfl, fun e => rfl⟩, ⟨F, G, ?_, fun j h => .inl h, fun j h => .inl h⟩, Fr.of_below HB1.out⟩
  rw [e1, e2]
  exact ⟨H1.out.sec.more (by omega) (by omega), H1.out.ref.more (by omega) (by omega), H1.out.ap⟩
theorem ref_left {w : World} {F : Nat → Prop} {b : Nat} {size : Int} {LG : List (Int × Int)} {sure : Nat} {left : Int} {out : Bool} {N : Nat} {u : Value} {us : List UW} (h : RefG w F b size LG sure left out N u us) (n : Int) (hn : 0 ≤ n ∧ n < 9223372036854775808) :
    Ref (w.setCell ⟨b, 3, none⟩ (.int .i64 n)) F b size LG sure n out N ∧ Fr F w (w.setCell ⟨b, 3, none⟩ (.int .i64 n)) := by
  have g := gby_set w b 3 (.int .i64 n)
  refine ⟨⟨u, us, h.own g ?_ hn h.hsu⟩, Fr.of_grown g (fun k hk => by injection hk with hk; subst hk; exact h.fb)⟩
  exact h.blk.set_ 3 (.int .i64 n)
set_option maxRecDepth 100000 in
set_option maxHeartbeats 1000000 in
theorem act_4pos {w : World} {b bw : Nat} {F G : Nat → Prop} {size : Int} {s : SS} {r : RS} {N : Nat} (h : Two w b bw F G size s r N) (hN : N < 99000) (at_ fill mask : Int) (odd : Bool) (ha : 0 ≤ at_ ∧ at_ < 9223372036854775808) :
    Calls Try.prog 20 #[.pointer (some ⟨b, 0, none⟩), .pointer (some ⟨bw, 0, none⟩), .agg #[.int .i64 4, .int .i64 at_, .int .u8 fill, .bool odd, .int .u64 mask]] w (ActPost w b bw F G size s r N ⟨4, at_, fill, odd, mask⟩) := by
  obtain ⟨kind, hk⟩ : ∃ kind : Int, (4 : Int) = kind := ⟨_, rfl⟩
  rw [hk]
  have HT := hide h
  have HA := hide (h.below ((Below.refl w.heap.size w).alloc (Nat.le_refl _) (Obj.cells #[.int .i64 kind, .int .i64 at_, .int .u8 fill, .bool odd, .int .u64 mask] TA)))
  have HB0 := hide ((Below.refl w.heap.size w).alloc (Nat.le_refl _) (Obj.cells #[.int .i64 kind, .int .i64 at_, .int .u8 fill, .bool odd, .int .u64 mask] TA))
  have HK := hide (Blk.new w TA #[.int .i64 kind, .int .i64 at_, .int .u8 fill, .bool odd, .int .u64 mask])
  clear h
  have d1 : (kind == 1) = false := by simp; omega
  have d2 : (kind == 2) = false := by simp; omega
  have d3 : (kind == 3) = false := by simp; omega
  have d4 : (kind == 4) = true := by simp; omega
  have HKD := hide hk
  have HAN := hide ha
  have d5 : decide (at_ < 0) = false := by simp; omega
  clear hk ha
  go_enter Try.func20, Try.ntmps20
  go_wp2_with (first | (go_at_call 15; (refine (sec_limit HA.out.sec at_ HAN.out).mono ?_); rintro e w1 ⟨rfl, h1, hf1⟩; have hkb := fr_blk hf1 HK.out (fun hg => absurd (HT.out.sec.lt _ hg) (by omega)); have H1 := hide (HA.out.left h1 hf1 (fun j hj => .inl hj) (Nat.le_refl _) (by omega)); have HF1 := hide hf1; have kx := hkb.cell 1; have zx := hkb.lt; obtain ⟨u1, us1, hr1⟩ := H1.out.ref; have ky := hr1.blk.cell 3; have qy := hr1.blk.frozen 3; have zy := hr1.blk.lt; unfold rk at ky; simp at kx ky; have HR1 := hide hr1; clear h1 hf1 hkb hr1))
  go_ret
  have hk := HKD.out
  subst hk
  obtain ⟨k1, k2⟩ := ref_left HR1.out at_ HAN.out
  have H2 := H1.out.right k1 k2 (fun j hj => .inl hj) (Nat.le_refl _) (by omega)
  have hn : ¬ at_ < 0 := by have := HAN.out.1; omega
  have e1 : stS size ⟨4, at_, fill, odd, mask⟩ s = ⟨s.out, at_, s.S, s.L⟩ := by unfold stS; simp [hn]
  have e2 : stR size ⟨4, at_, fill, odd, mask⟩ r = ⟨r.LG, r.sure, at_, r.out⟩ := by unfold stR; simp [hn]
  refine ⟨⟨_, rfl, fun e => rfl⟩, ⟨F, G, ?_, fun j h => .inl h, fun j h => .inl h⟩, FG.tr (Fr.of_below HB0.out) (FG.tr (FG.l HF1.out) (FG.r k2))⟩
  rw [e1, e2]
  exact ⟨H2.sec.more (by omega) (by omega), H2.ref.more (by omega) (by omega), H2.ap⟩
/-- What a Read's answer is as a string. -/
def rdStr (e c : Int) : ByteArray := if e = 0 then strC c else ⟨#[]⟩
theorem rd_string {w w' : World} {F : Nat → Prop} {v : Value} {e c : Int} (h0 : e = 0 → Fil w F v c) (h1 : e ≠ 0 → v = .slice none 0 0) (hb : Below w.heap.size w w') : (convert 31 9 v).run Try.prog w' = .ok (.string (rdStr e c)) w' := by
  unfold rdStr
  by_cases he : e = 0
  · rw [if_pos he]; exact fil_string ((h0 he).below hb (fun _ h => h))
  · rw [if_neg he, h1 he]; exact nil_string w'
set_option maxRecDepth 100000 in
set_option maxHeartbeats 1000000 in
theorem act_1 {w : World} {b bw : Nat} {F G : Nat → Prop} {size : Int} {s : SS} {r : RS} {N : Nat} (h : Two w b bw F G size s r N) (hN : N < 99000) (at_ fill mask : Int) (odd : Bool) :
    Calls Try.prog 20 #[.pointer (some ⟨b, 0, none⟩), .pointer (some ⟨bw, 0, none⟩), .agg #[.int .i64 1, .int .i64 at_, .int .u8 fill, .bool odd, .int .u64 mask]] w (ActPost w b bw F G size s r N ⟨1, at_, fill, odd, mask⟩) := by
  obtain ⟨kind, hk⟩ : ∃ kind : Int, (1 : Int) = kind := ⟨_, rfl⟩
  rw [hk]
  have HT := hide h
  have HA := hide (h.below ((Below.refl w.heap.size w).alloc (Nat.le_refl _) (Obj.cells #[.int .i64 kind, .int .i64 at_, .int .u8 fill, .bool odd, .int .u64 mask] TA)))
  have HB0 := hide ((Below.refl w.heap.size w).alloc (Nat.le_refl _) (Obj.cells #[.int .i64 kind, .int .i64 at_, .int .u8 fill, .bool odd, .int .u64 mask] TA))
  have HK := hide (Blk.new w TA #[.int .i64 kind, .int .i64 at_, .int .u8 fill, .bool odd, .int .u64 mask])
  clear h
  have d1 : (kind == 1) = true := by simp; omega
  have HKD := hide hk
  clear hk
  obtain ⟨t1, ht1⟩ : ∃ t1, rdStr (faultE s.out size at_) (nowC s.S s.L at_) = t1 := ⟨_, rfl⟩
  obtain ⟨t2, ht2⟩ : ∃ t2, rdStr (faultE r.out size at_) (nowC (fun _ => 0) r.LG at_) = t2 := ⟨_, rfl⟩
  obtain ⟨E1, hE1⟩ : ∃ E1, faultE s.out size at_ = E1 := ⟨_, rfl⟩
  obtain ⟨E2, hE2⟩ : ∃ E2, faultE r.out size at_ = E2 := ⟨_, rfl⟩
  have HL := hide (show s = r.ss → t1 = t2 ∧ E1 = E2 from fun e => by
    rw [← ht1, ← ht2, ← hE1, ← hE2, e]
    refine ⟨?_, rfl⟩
    show rdStr (faultE r.out size at_) (nowC (sS r.LG r.sure) (sL r.LG r.sure) at_) = _
    rw [sS_now])
  rw [hE1] at ht1
  rw [hE2] at ht2
  have HT1 := hide ht1
  have HT2 := hide ht2
  have HE1 := hide hE1
  have HE2 := hide hE2
  clear ht1 ht2 hE1 hE2
  cases hq : (t1.toList == t2.toList) <;> cases hp : (E1 == E2)
  all_goals
    go_enter Try.func20, Try.ntmps20
    go_wp2_with (first | (go_at_call 12; (refine (sec_read HA.out.sec at_).mono ?_); rintro e w1 ⟨v1, rfl, h0, hn, hb1⟩; rw [HE1.out] at h0 hn ⊢; have H0 := hide h0; have HN := hide hn; have H1 := hide (HA.out.below hb1); have HB1 := hide (HB0.out.trans (hb1.mono HB0.out.size)); have kx := ((HK.out.below hb1 HK.out.lt).cell 1); have zx := (HK.out.below hb1 HK.out.lt).lt; simp at kx; clear h0 hn hb1) | (go_at_call 33; (refine (ref_read H1.out.ref at_).mono ?_); rintro e w2 ⟨v2, rfl, h0, hn, hb2⟩; rw [HE2.out] at h0 hn ⊢; have s1 := rd_string H0.out HN.out hb2; have s2 := rd_string h0 hn (Below.refl _ w2); rw [HT1.out] at s1; rw [HT2.out] at s2; have H2 := hide (H1.out.below hb2); have HB2 := hide (HB1.out.trans (hb2.mono HB1.out.size)); clear h0 hn hb2))
    go_ret
    have hk := HKD.out
    subst hk
    refine ⟨⟨_, rfl, fun e => ?_⟩, ⟨F, G, ⟨H2.out.sec.more (by omega) (by omega), H2.out.ref.more (by omega) (by omega), H2.out.ap⟩, fun j h => .inl h, fun j h => .inl h⟩, Fr.of_below HB2.out⟩
    obtain ⟨x1, x2⟩ := HL.out e
    first
      | rfl
      | (exfalso; rw [x1] at hq; simp at hq; done)
      | (exfalso; rw [x2] at hp; simp at hp; done)
end Go.Proofs.Ythlgkhnkcjihiaa
