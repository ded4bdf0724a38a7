/- The law on blanks, walked. -/
import Derived.Test.YtmbjalcphdggnaaDoorJsY
import Derived.Test.YtmbjalcphdggnaaDoorJsU
import Derived.Test.YtmbjalcphdggnaaDoorRegW
namespace Go.Proofs.YtmbjalcphdggnaaDoor
set_option linter.unusedSimpArgs false
set_option linter.unusedVariables false
open Go.RowKit
def blkOf (c : UInt8) : UInt8 := ([32, 9, 10, 13] : L8).getD (c.toNat % 4) 0
theorem blkOf_is (c : UInt8) : blL.contains (blkOf c) = true := u8_all (fun c => blL.contains (blkOf c) = true) (by decide +kernel) c
theorem u8_inf : ∃ i, Tryd.prog.info? T8 = some i ∧ i.zero = some (.int .u8 0) ∧ i.size = 1 ∧ i.bytes = 1 := by
  have h := u8_info
  cases hi : Tryd.prog.info? T8 with
  | none => rw [hi] at h; cases h
  | some i => rw [hi] at h; simp only [Option.map_some, Option.some.injEq, Prod.mk.injEq] at h; exact ⟨i, rfl, h.1, h.2.1, h.2.2⟩
theorem own_rb' {w : World} {base n c : Nat} {A : Option Addr} {l : L8} (h : w.ownsRow base T8 1 (.slice A n c) n (cs8 l)) : RB w w.heap.size A n l := Reads.of_own h
theorem ba_app (a b : L8) : (⟨a.toArray⟩ ++ ⟨b.toArray⟩ : ByteArray) = ⟨(a ++ b).toArray⟩ := by
  apply ByteArray.ext
  rw [ByteArray.data_append]
  simp
def gotJ (g : Got JV) : JV := match g with
  | .ok J => J
  | .bad _ _ => .mk 0 [] [] []
def gotE (g : Got JV) : Nat := match g with
  | .ok _ => 0
  | .bad _ e => e
theorem parseS_In (l : L8) : (parseS l).In := by
  unfold parseS
  split
  · intro p e; injection e with _ e; cases e
  · refine (nextS_In _).bind fun T0 h0 => ?_
    have := nextS_W h0
    refine (valF_In _ 0 T0 (by omega)).bind fun r _ => ?_
    split
    · exact Got.In.ok _
    · intro p e; injection e with _ e; cases e
theorem gotE_zero {l : L8} (h : gotE (parseS l) = 0) : parseS l = .ok (gotJ (parseS l)) := by
  have hi := parseS_In l
  cases hp : parseS l with
  | ok J => rfl
  | bad p e =>
    rw [hp] at h hi
    exact (hi p (by rw [show e = 0 from h])).elim
/-- What Parse answers, in one form. -/
theorem parse_uni {w : World} {A : Option Addr} {n c : Nat} {l : L8} (hr : RB w w.heap.size A n l) (hc : n ≤ c) (hT : Tabs w) (hA : ∀ ad, A = some ad → ad.block < w.heap.size) :
    Calls Tryd.prog 10 #[.slice A n c] w fun e w' => Below w.heap.size w w' ∧ ∃ (k : Int) (t : ByteArray) (A1 : Option Addr) (n1 c1 : Nat) (A2 : Option Addr) (n2 c2 : Nat) (at_ : Int),
      e = .returned (.tuple #[.agg #[.int .i64 k, .string t, .slice A1 n1 c1, .slice A2 n2 c2], .int .i64 at_, .int .i64 (gotE (parseS l) : Int)]) ∧ VRd w' (fun j => j < w'.heap.size) (gotJ (parseS l)) [.int .i64 k, .string t, .slice A1 n1 c1, .slice A2 n2 c2] := by
  refine (parse_to hr hc hT hA).mono ?_
  rintro e w' ⟨hb, hr⟩
  refine ⟨hb, ?_⟩
  rcases hr with ⟨J, cs, hp, rfl, hv⟩ | ⟨p, e0, hp, _, rfl⟩
  · rw [hp]
    obtain ⟨k, t, A1, n1, c1, A2, n2, c2, rfl⟩ := hv.four
    exact ⟨k, t, A1, n1, c1, A2, n2, c2, 0, rfl, hv.all⟩
  · rw [hp]
    exact ⟨0, _, none, 0, 0, none, 0, 0, _, rfl, vrd_leaf 0 []⟩
theorem blank_uni {s a : L8} (hs : blk_ s) (hl : a.length + 2 * s.length ≤ 262144) : gotJ (parseS (s ++ (a ++ s))) = gotJ (parseS a) ∧ gotE (parseS (s ++ (a ++ s))) = gotE (parseS a) := by
  obtain ⟨h1, h2⟩ := parse_blank hs hl
  cases hp : parseS a with
  | ok J => rw [h1 J hp]; exact ⟨rfl, rfl⟩
  | bad p e => obtain ⟨p', q⟩ := h2 p e hp; rw [q]; exact ⟨rfl, rfl⟩
set_option maxRecDepth 100000 in
set_option maxHeartbeats 2400000 in
theorem blanks_any (w : World) (A1 A2 A3 : Option Addr) (n1 c1 n2 c2 n3 c3 : Nat) (la lb lx : L8) (hT : Tabs w) (h1 : RB w w.heap.size A1 n1 la) (hc1 : n1 ≤ c1) (h2 : RB w w.heap.size A2 n2 lb) (hc2 : n2 ≤ c2) (h3 : RB w w.heap.size A3 n3 lx) (hc3 : n3 ≤ c3) :
    Calls Tryd.prog 3 #[.slice A1 n1 c1, .slice A2 n2 c2, .slice A3 n3 c3] w fun e w' => e = .returned (.bool true) ∧ Below w.heap.size w w' := by
  have HT := hide hT
  have H1 := hide h1
  have H2 := hide h2
  have H3 := hide h3
  have e1 := h1.len
  have e2 := h2.len
  have e3 := h3.len
  clear hT h1 h2 h3
  by_cases q1 : 10000 < n1
  · have d1 : decide ((10000 : Int) < (n1 : Int)) = true := by simp; omega
    go_enter Tryd.func3, Tryd.ntmps3
    go_wp2_with (first | (go_at_call 9; (refine (answers_any w1 (HT.out.below HB1.out)).mono ?_); rintro e w2 ⟨rfl, hb⟩; have HB2 := hide (HB1.out.trans (hb.mono HB1.out.size)); clear hb) | (go_at_call 9; (refine (answers_any w HT.out).mono ?_); rintro e w1 ⟨rfl, hb⟩; have HB1 := hide hb; clear hb))
    go_ret
    exact ⟨rfl, HB2.out⟩
  have d1 : decide ((10000 : Int) < (n1 : Int)) = false := by simp; omega
  by_cases q2 : 10000 < n2
  · have d2 : decide ((10000 : Int) < (n2 : Int)) = true := by simp; omega
    go_enter Tryd.func3, Tryd.ntmps3
    go_wp2_with (first | (go_at_call 9; (refine (answers_any w1 (HT.out.below HB1.out)).mono ?_); rintro e w2 ⟨rfl, hb⟩; have HB2 := hide (HB1.out.trans (hb.mono HB1.out.size)); clear hb) | (go_at_call 9; (refine (answers_any w HT.out).mono ?_); rintro e w1 ⟨rfl, hb⟩; have HB1 := hide hb; clear hb))
    go_ret
    exact ⟨rfl, HB2.out⟩
  have d2 : decide ((10000 : Int) < (n2 : Int)) = false := by simp; omega
  by_cases q3 : 100 < n3
  · have d3 : decide ((100 : Int) < (n3 : Int)) = true := by simp; omega
    go_enter Tryd.func3, Tryd.ntmps3
    go_wp2_with (first | (go_at_call 9; (refine (answers_any w1 (HT.out.below HB1.out)).mono ?_); rintro e w2 ⟨rfl, hb⟩; have HB2 := hide (HB1.out.trans (hb.mono HB1.out.size)); clear hb) | (go_at_call 9; (refine (answers_any w HT.out).mono ?_); rintro e w1 ⟨rfl, hb⟩; have HB1 := hide hb; clear hb))
    go_ret
    exact ⟨rfl, HB2.out⟩
  have d3 : decide ((100 : Int) < (n3 : Int)) = false := by simp; omega
  obtain ⟨i0, hi0, hz0, hz1, hz2⟩ := u8_inf
  have HI0 := hide hi0
  have HZ0 := hide hz0
  clear hi0 hz0
  go_enter Tryd.func3, Tryd.ntmps3
  go_wp2_with (go_at_call 9; (refine (answers_any w HT.out).mono ?_); rintro e w1 ⟨rfl, hb⟩; have HB1 := hide hb; clear hb)
  go_loopw [7, 8] (fun bv iv wr => ∃ (j : Nat) (Ab : Option Addr) (cb : Nat), iv = .int .i64 (j : Int) ∧ bv = .slice Ab j cb ∧ j ≤ n3 ∧ Hid (Below w.heap.size w wr) ∧ Hid (wr.ownsRow w.heap.size T8 1 (.slice Ab j cb) j (cs8 ((lx.take j).map blkOf)))) (fun _ iv _ => n3 - (intOf iv).toNat)
  case atStart => exact ⟨0, none, 0, by go_num, rfl, by omega, HB1, hide (World.ownsRow_nil _ _ _ _)⟩
  case round =>
    clear HB1
    obtain ⟨j, Ab, cb, rfl, rfl, hj, HB, HO⟩ := hrel
    by_cases hlt : j < n3
    · obtain ⟨ad, hA, hab, hcell⟩ := RB.at_ H3.out hlt (by omega)
      subst hA
      obtain ⟨x, hx⟩ : ∃ x, lx[j]'(by omega) = x := ⟨_, rfl⟩
      rw [hx] at hcell
      have cx := (HB.out.cell (show (ad.add j).block < w.heap.size by rw [block_of_add]; exact hab)).trans hcell
      have zx : ad.block < wr.heap.size := Nat.lt_of_lt_of_le hab HB.out.size
      have HX := hide hx
      have hxm : x.toNat % 4 < 4 := Nat.mod_lt _ (by decide)
      clear hcell hx
      have hjc : j < c3 := by omega
      have hbk : (⟨#[32, 9, 10, 13]⟩ : ByteArray)[x.toNat % 4]'(by show x.toNat % 4 < 4; exact hxm) = blkOf x := by
        unfold blkOf
        rw [List.getD_eq_getElem?_getD, List.getElem?_eq_getElem (show x.toNat % 4 < ([32, 9, 10, 13] : L8).length from hxm)]
        rfl
      have HO1 := hide (own_later HO.out (al_below wr (.cells #[.int .u8 ((blkOf x).toNat : Int)] T8)))
      have HTK := hide (show cs8 ((lx.take j).map blkOf) ++ cs8 [blkOf x] = cs8 ((lx.take (j + 1)).map blkOf) by
        rw [← cs8_append, List.take_succ_eq_append_getElem (by omega), List.map_append, HX.out]; rfl)
      go_wp2_with (at_builtin; refine wpList_append_any _ rfl (.tmp 46) (.tmp 53) _ rfl w.heap.size T8 i0 _ 1 1 Tryd.underlying22 HI0.out HZ0.out hz1 hz2 rfl (by omega) (.slice Ab j cb) j (cs8 ((lx.take j).map blkOf)) rfl HO1.out _ (some ⟨wr.heap.size, 0, none⟩) 1 1 (cs8 [blkOf x]) rfl (reads_blk (Blk.new wr T8 _) rfl rfl) (cs8_one _) (by unfold maxLen; omega) (by omega) (by have := HB.out.size; simp; omega) ?_; intro v' w' ho hgb hoo; (obtain ⟨Ab', cb', rfl, _⟩ := own_slice ho); (rw [HTK.out] at ho); have HO2 := hide ho; have HB2 := hide (((bal HB.out _).grown hgb (by have := HB.out.size; simp; omega) (fun k e => by have := own_block HO1.out k e; omega))); clear ho hgb hoo)
      go_roundw
      case rel => exact ⟨j + 1, Ab', cb', by go_num, rfl, by omega, HB2, HO2⟩
      case measure => simp [intOf]; omega
    · have HLX := hide (show (lx.take j).map blkOf = lx.map blkOf by rw [List.take_of_length_le (by omega)])
      rw [HLX.out] at HO
      obtain ⟨s, hs⟩ : ∃ s, lx.map blkOf = s := ⟨_, rfl⟩
      rw [hs] at HO
      have hsl : s.length = n3 := by rw [← hs, List.length_map]; exact e3
      have HSB := hide (show blk_ s from fun c hc => by rw [← hs] at hc; obtain ⟨y, _, rfl⟩ := List.mem_map.1 hc; exact blkOf_is y)
      clear hs HLX
      obtain rfl : j = n3 := by omega
      have HBwr := HB
      clear HB
      go_upto_region 8 with fail
      obtain ⟨w2, hw2⟩ : ∃ x, wr.alloc (.cells #[] T8) = x := ⟨_, rfl⟩
      have HBw2 := hide (show Below w.heap.size w w2 from hw2 ▸ bal HBwr.out _)
      have HOw2 := hide (show w2.ownsRow wr.heap.size T8 1 (.slice (some ⟨wr.heap.size, 0, none⟩) 0 0) 0 [] from hw2 ▸ World.ownsRow_lit wr #[] 0 (Nat.le_refl _) (by decide) rfl)
      have HGw2 := hide (show Below wr.heap.size wr w2 from hw2 ▸ al_below wr _)
      have HWw2 := hide hw2
      clear hw2
      go_upto_region 9 with (first | (go_at_call 10; (refine (parse_uni (own_rb' HOw3.out) hcw3 HTw3.out HAw3.out).mono ?_); rintro e w4 ⟨hb, ka, ta, A1a, n1a, c1a, A2a, n2a, c2a, ata, rfl, hv⟩; have HBw4 := hide (HBw3.out.trans (hb.mono HBw3.out.size)); have HGw4 := hide (HGw3.out.trans (hb.mono HGw3.out.size)); have HVw4 := hide hv; clear hb hv) | (at_builtin; (rw [HWw2.out]); refine wpList_append_any _ rfl (.tmp 56) (.tmp 57) _ rfl wr.heap.size T8 i0 _ 1 1 Tryd.underlying22 HI0.out HZ0.out hz1 hz2 rfl (by omega) (.slice (some ⟨wr.heap.size, 0, none⟩) 0 0) 0 [] rfl HOw2.out w.heap.size A1 n1 c1 (cs8 la) rfl (H1.out.below HBw2.out) (cs8_one _) (by unfold maxLen; omega) (by omega) HGw2.out.size ?_; intro v' w3 ho hgb hoo; (rw [Nat.zero_add, List.nil_append] at ho); (obtain ⟨Aw3, cw3, rfl, hcw3⟩ := own_slice ho); have HOw3 := hide ho; have HGw3 := hide (HGw2.out.grown hgb HGw2.out.size (fun k e => own_block HOw2.out k e)); have HBw3 := hide (HBwr.out.trans (HGw3.out.mono HBwr.out.size)); have HTw3 := hide (HT.out.below HBw3.out); have HAw3 := hide (show ∀ ad, Aw3 = some ad → ad.block < w3.heap.size from fun ad e => own_lt HOw3.out _ (by rw [e]; rfl)); clear ho hgb hoo))
      obtain ⟨w5, hw5⟩ : ∃ x, w4.alloc (.cells #[.int .i64 ka, .string ta, .slice A1a n1a c1a, .slice A2a n2a c2a] TV) = x := ⟨_, rfl⟩
      have HBw5 := hide (show Below w.heap.size w w5 from hw5 ▸ bal HBw4.out _)
      have HNw5 := hide (show Below w4.heap.size w4 w5 from hw5 ▸ al_below w4 _)
      have HCa := hide (show Blk w5 w4.heap.size TV #[.int .i64 ka, .string ta, .slice A1a n1a c1a, .slice A2a n2a c2a] from hw5 ▸ Blk.new _ _ _)
      have HVa := hide (HVw4.out.later HNw5.out)
      rw [hw5]
      clear hw5 HVw4
      have HO5 := hide (own_later (own_later HO.out HGw4.out) HNw5.out)
      clear HGw2 HGw3 HOw2 HOw3 HWw2 HBw2 HBw3 HTw3 HAw3 hcw3 HO HNw5
      obtain ⟨w6, hw6⟩ : ∃ x, w5.alloc (.cells #[] T8) = x := ⟨_, rfl⟩
      have HBw6 := hide (show Below w.heap.size w w6 from hw6 ▸ bal HBw5.out _)
      have HOw6 := hide (show w6.ownsRow w5.heap.size T8 1 (.slice (some ⟨w5.heap.size, 0, none⟩) 0 0) 0 [] from hw6 ▸ World.ownsRow_lit w5 #[] 0 (Nat.le_refl _) (by decide) rfl)
      have HGw6 := hide (show Below w5.heap.size w5 w6 from hw6 ▸ al_below w5 _)
      have HWw6 := hide hw6
      clear hw6
      go_upto_region 10 with (first | (go_at_call 10; (refine (parse_uni (own_rb' HOw7.out) hcw7 HTw7.out HAw7.out).mono ?_); rintro e w8 ⟨hb, kb, tb, A1b, n1b, c1b, A2b, n2b, c2b, atb, rfl, hv⟩; have HBw8 := hide (HBw7.out.trans (hb.mono HBw7.out.size)); have HGw8 := hide (HGw7.out.trans (hb.mono HGw7.out.size)); have HVw8 := hide hv; clear hb hv) | (at_builtin; (rw [HWw6.out]); refine wpList_append_any _ rfl (.tmp 64) (.tmp 65) _ rfl w5.heap.size T8 i0 _ 1 1 Tryd.underlying22 HI0.out HZ0.out hz1 hz2 rfl (by omega) (.slice (some ⟨w5.heap.size, 0, none⟩) 0 0) 0 [] rfl HOw6.out w.heap.size A2 n2 c2 (cs8 lb) rfl (H2.out.below HBw6.out) (cs8_one _) (by unfold maxLen; omega) (by omega) HGw6.out.size ?_; intro v' w7 ho hgb hoo; (rw [Nat.zero_add, List.nil_append] at ho); (obtain ⟨Aw7, cw7, rfl, hcw7⟩ := own_slice ho); have HOw7 := hide ho; have HGw7 := hide (HGw6.out.grown hgb HGw6.out.size (fun k e => own_block HOw6.out k e)); have HBw7 := hide (HBw5.out.trans (HGw7.out.mono HBw5.out.size)); have HTw7 := hide (HT.out.below HBw7.out); have HAw7 := hide (show ∀ ad, Aw7 = some ad → ad.block < w7.heap.size from fun ad e => own_lt HOw7.out _ (by rw [e]; rfl)); clear ho hgb hoo))
      obtain ⟨w9, hw9⟩ : ∃ x, w8.alloc (.cells #[.int .i64 kb, .string tb, .slice A1b n1b c1b, .slice A2b n2b c2b] TV) = x := ⟨_, rfl⟩
      have HBw9 := hide (show Below w.heap.size w w9 from hw9 ▸ bal HBw8.out _)
      have HNw9 := hide (show Below w8.heap.size w8 w9 from hw9 ▸ al_below w8 _)
      have HCb := hide (show Blk w9 w8.heap.size TV #[.int .i64 kb, .string tb, .slice A1b n1b c1b, .slice A2b n2b c2b] from hw9 ▸ Blk.new _ _ _)
      have HVb := hide (HVw8.out.later HNw9.out)
      rw [hw9]
      clear hw9 HVw8
      have HO9 := hide (own_later (own_later HO5.out HGw8.out) HNw9.out)
      have HC9 := hide ((HCa.out.below HGw8.out HCa.out.lt).below HNw9.out (HCa.out.below HGw8.out HCa.out.lt).lt)
      have HV9 := hide ((HVa.out.later HGw8.out).later HNw9.out)
      clear HGw6 HGw7 HOw6 HOw7 HWw6 HBw6 HBw7 HTw7 HAw7 hcw7 HO5 HNw9 HGw8 HGw4 HCa HVa
      have hcb : (convert 22 9 (.slice Ab j cb)).run Tryd.prog w9 = .ok (.string ⟨s.toArray⟩) w9 := convert_any (own_rb' HO9.out)
      have hca : (convert 22 9 (.slice A1 n1 c1)).run Tryd.prog w9 = .ok (.string ⟨la.toArray⟩) w9 := convert_any ((H1.out.below HBw9.out).more HBw9.out.size)
      have hcat : (⟨s.toArray⟩ ++ ⟨la.toArray⟩ ++ ⟨s.toArray⟩ : ByteArray) = ⟨(s ++ (la ++ s)).toArray⟩ := by rw [ba_app, ba_app, List.append_assoc]
      obtain ⟨w10, hw10⟩ : ∃ x, Lib.bytesWorld w9 T8 ⟨(s ++ (la ++ s)).toArray⟩ = x := ⟨_, rfl⟩
      have hcx : (convert 9 22 (.string ⟨(s ++ (la ++ s)).toArray⟩)).run Tryd.prog w9 = .ok (.slice (some ⟨w9.heap.size, 0, none⟩) (s ++ (la ++ s)).length (grownCap w9 (s ++ (la ++ s)).length 0 T8)) w10 := hw10 ▸ conv_run (s ++ (la ++ s)) w9
      have HR10 := hide (show RB w10 w10.heap.size (some ⟨w9.heap.size, 0, none⟩) (s ++ (la ++ s)).length (s ++ (la ++ s)) from hw10 ▸ conv_rb (s ++ (la ++ s)) w9)
      have HK10 := hide (conv_cap (s ++ (la ++ s)) w9)
      have HN10 := hide (show Below w9.heap.size w9 w10 from hw10 ▸ conv_below (s ++ (la ++ s)) w9)
      have HA10 := hide (show ∀ ad : Addr, (some (⟨w9.heap.size, 0, none⟩ : Addr)) = some ad → ad.block < w10.heap.size from hw10 ▸ conv_lt (s ++ (la ++ s)) w9)
      have HT10 := hide (HT.out.below (HBw9.out.trans (HN10.out.mono HBw9.out.size)))
      clear hw10
      obtain ⟨m1, hm1⟩ : ∃ m, (s ++ (la ++ s)).length = m := ⟨_, rfl⟩
      have hm1' : la.length + 2 * s.length = m1 := by rw [← hm1]; simp; omega
      rw [hm1] at hcx HR10 HK10
      clear hm1
      go_upto_region 12 with (go_at_call 10; (refine (parse_uni HR10.out HK10.out HT10.out HA10.out).mono ?_); rintro e w11 ⟨hb, kx, tx, A1x, n1x, c1x, A2x, n2x, c2x, atx, rfl, hv⟩; have HG11 := hide (HN10.out.trans (hb.mono HN10.out.size)); have HBw11 := hide (HBw9.out.trans (HG11.out.mono HBw9.out.size)); have HVw11 := hide hv; clear hb hv)
      obtain ⟨w12, hw12⟩ : ∃ x, w11.alloc (.cells #[.int .i64 kx, .string tx, .slice A1x n1x c1x, .slice A2x n2x c2x] TV) = x := ⟨_, rfl⟩
      have HBw12 := hide (show Below w.heap.size w w12 from hw12 ▸ bal HBw11.out _)
      have HNw12 := hide (show Below w11.heap.size w11 w12 from hw12 ▸ al_below w11 _)
      have HCx := hide (show Blk w12 w11.heap.size TV #[.int .i64 kx, .string tx, .slice A1x n1x c1x, .slice A2x n2x c2x] from hw12 ▸ Blk.new _ _ _)
      have HVx := hide (HVw11.out.later HNw12.out)
      rw [hw12]
      clear hw12 HVw11
      have HG12 := hide (HG11.out.trans (HNw12.out.mono HG11.out.size))
      have HCa := hide (HC9.out.below HG12.out HC9.out.lt)
      have HVa := hide (HV9.out.later HG12.out)
      have HCb' := hide (HCb.out.below HG12.out HCb.out.lt)
      have HVb' := hide (HVb.out.later HG12.out)
      obtain ⟨hux, hue⟩ := blank_uni HSB.out (show la.length + 2 * s.length ≤ 262144 by omega)
      rw [hue]
      rw [hux] at HVx
      obtain ⟨ea, hea⟩ : ∃ e, gotE (parseS la) = e := ⟨_, rfl⟩
      obtain ⟨eb, heb⟩ : ∃ e, gotE (parseS lb) = e := ⟨_, rfl⟩
      rw [hea, heb]
      have HEA := hide hea
      have HEB := hide heb
      clear HC9 HV9 HCb HVb hux hue hea heb HN10 HA10 HT10 HR10 HK10 hcx hca hcb hcat HG11 HG12 HNw12
      have e5 : ((ea : Int) != (ea : Int)) = false := by simp
      have ka1 := HCa.out.cell; have fa1 := HCa.out.frozen; have za1 := HCa.out.lt
      have kx1 := HCx.out.cell; have fx1 := HCx.out.frozen; have zx1 := HCx.out.lt
      go_upto_region 14 with (go_at_call 11; (refine (same_any HVa.out HVx.out).mono ?_); rintro e w13 ⟨rfl, hb⟩; (rw [eqJ_refl]); have HG13 := hide hb; have HBw13 := hide (HBw12.out.trans (hb.mono HBw12.out.size)); clear hb)
      clear ka1 fa1 za1 kx1 fx1 zx1
      have hca : (convert 22 9 (.slice A1 n1 c1)).run Tryd.prog w13 = .ok (.string ⟨la.toArray⟩) w13 := convert_any ((H1.out.below HBw13.out).more HBw13.out.size)
      have hcb2 : (convert 22 9 (.slice A2 n2 c2)).run Tryd.prog w13 = .ok (.string ⟨lb.toArray⟩) w13 := convert_any ((H2.out.below HBw13.out).more HBw13.out.size)
      have hcat : (⟨s.toArray⟩ ++ ⟨#[91]⟩ ++ ⟨s.toArray⟩ ++ ⟨la.toArray⟩ ++ ⟨s.toArray⟩ ++ ⟨#[44]⟩ ++ ⟨s.toArray⟩ ++ ⟨lb.toArray⟩ ++ ⟨s.toArray⟩ ++ ⟨#[93]⟩ : ByteArray) = ⟨(s ++ (91 :: (s ++ (la ++ (s ++ (44 :: (s ++ (lb ++ (s ++ [93]))))))))).toArray⟩ := by
        rw [show (⟨#[91]⟩ : ByteArray) = ⟨([91] : L8).toArray⟩ from rfl, show (⟨#[44]⟩ : ByteArray) = ⟨([44] : L8).toArray⟩ from rfl, show (⟨#[93]⟩ : ByteArray) = ⟨([93] : L8).toArray⟩ from rfl]
        simp only [ba_app]
        simp
      obtain ⟨y, hy⟩ : ∃ y, (s ++ (91 :: (s ++ (la ++ (s ++ (44 :: (s ++ (lb ++ (s ++ [93]))))))))) = y := ⟨_, rfl⟩
      rw [hy] at hcat
      have hyl : y.length = la.length + lb.length + 5 * s.length + 3 := by rw [← hy]; simp; omega
      have HYY := hide hy
      clear hy hyl
      obtain ⟨w14, hw14⟩ : ∃ x, Lib.bytesWorld w13 T8 ⟨y.toArray⟩ = x := ⟨_, rfl⟩
      have hcx : (convert 9 22 (.string ⟨y.toArray⟩)).run Tryd.prog w13 = .ok (.slice (some ⟨w13.heap.size, 0, none⟩) y.length (grownCap w13 y.length 0 T8)) w14 := hw14 ▸ conv_run y w13
      have HR14 := hide (show RB w14 w14.heap.size (some ⟨w13.heap.size, 0, none⟩) y.length y from hw14 ▸ conv_rb y w13)
      have HK14 := hide (conv_cap y w13)
      have HN14 := hide (show Below w13.heap.size w13 w14 from hw14 ▸ conv_below y w13)
      have HA14 := hide (show ∀ ad : Addr, (some (⟨w13.heap.size, 0, none⟩ : Addr)) = some ad → ad.block < w14.heap.size from hw14 ▸ conv_lt y w13)
      have HT14 := hide (HT.out.below (HBw13.out.trans (HN14.out.mono HBw13.out.size)))
      clear hw14
      go_upto_region 15 with (go_at_call 10; (refine (parse_uni HR14.out HK14.out HT14.out HA14.out).mono ?_); rintro e w15 ⟨hb, ky, ty, A1y, n1y, c1y, A2y, n2y, c2y, aty, rfl, hv⟩; have HG15 := hide (HN14.out.trans (hb.mono HN14.out.size)); have HBw15 := hide (HBw13.out.trans (HG15.out.mono HBw13.out.size)); have HVw15 := hide hv; clear hb hv)
      obtain ⟨w16, hw16⟩ : ∃ x, w15.alloc (.cells #[.int .i64 ky, .string ty, .slice A1y n1y c1y, .slice A2y n2y c2y] TV) = x := ⟨_, rfl⟩
      have HBw16 := hide (show Below w.heap.size w w16 from hw16 ▸ bal HBw15.out _)
      have HNw16 := hide (show Below w15.heap.size w15 w16 from hw16 ▸ al_below w15 _)
      have HCy := hide (show Blk w16 w15.heap.size TV #[.int .i64 ky, .string ty, .slice A1y n1y c1y, .slice A2y n2y c2y] from hw16 ▸ Blk.new _ _ _)
      have HVy := hide (HVw15.out.later HNw16.out)
      rw [hw16]
      clear hw16 HVw15
      have HG16 := hide (HG13.out.trans ((HG15.out.trans (HNw16.out.mono HG15.out.size)).mono HG13.out.size))
      have HCa2 := hide (HCa.out.below HG16.out HCa.out.lt)
      have HVa2 := hide (HVa.out.later HG16.out)
      have HCb2 := hide (HCb'.out.below HG16.out HCb'.out.lt)
      have HVb2 := hide (HVb'.out.later HG16.out)
      obtain ⟨ey, hey⟩ : ∃ e, gotE (parseS y) = e := ⟨_, rfl⟩
      have HEY := hide hey
      rw [hey]
      clear HCa HVa HCb' HVb' HG13 HG15 HG16 HNw16 hca hcb2 hcat hcx HR14 HK14 HN14 HA14 HT14 HCx HVx hey HBw9 HBw11 HBw13
      by_cases ha0 : ea = 0
      · by_cases hb0 : eb = 0
        · subst ha0 hb0
          have HJa := hide (gotE_zero HEA.out)
          have HJb := hide (gotE_zero HEB.out)
          have HL := hide (parse_list HSB.out HJa.out HJb.out (by omega) (by omega) (by omega))
          rw [HYY.out] at HL
          by_cases hy0 : ey = 0
          · subst hy0
            have HJ := hide (show gotJ (parseS y) = .mk 6 [] [] [gotJ (parseS la), gotJ (parseS lb)] by
              rcases HL.out with h | ⟨p, h⟩
              · rw [h]; rfl
              · have := HEY.out; rw [h] at this; cases this)
            rw [HJ.out] at HVy
            obtain ⟨Ay, cy, Ay', cy', xs, hcs, _, _, hcl, hry, hly⟩ := HVy.out.mk'
            simp only [List.cons.injEq, Value.int.injEq, Value.string.injEq, Value.slice.injEq, true_and, and_true] at hcs
            obtain ⟨rfl, rfl, ⟨rfl, hn1, rfl⟩, rfl, hn2, rfl⟩ := hcs
            have hn2' : n2y = 2 := hn2
            have hn1' : n1y = 0 := hn1
            clear hn1 hn2
            subst hn1' hn2'
            obtain ⟨ad, hA, had, hcell⟩ := hry.2 (by simp)
            subst hA
            obtain ⟨cs0, hv0, hx0⟩ := VRdL.at_ _ xs hly 0 (by simp)
            obtain ⟨cs1, hv1, hx1⟩ := VRdL.at_ _ xs hly 1 (by simp)
            obtain ⟨p1, p2, p3, p4, p5, p6, p7, p8, rfl⟩ := hv0.four
            obtain ⟨r1, r2, r3, r4, r5, r6, r7, r8, rfl⟩ := hv1.four
            have HC0 := hide (show ∀ w', Below w16.heap.size w16 w' → w'.cell? ad = some (.int .i64 p1) ∧ w'.cell? ⟨ad.block, ad.off + 1, none⟩ = some (.string p2) ∧ w'.cell? ⟨ad.block, ad.off + 2, none⟩ = some (.slice p3 p4 p5) ∧ w'.cell? ⟨ad.block, ad.off + 3, none⟩ = some (.slice p6 p7 p8) from fun w' hb => by
              have q : ∀ i u, xs[0 * 4 + i]? = some u → w'.cell? (ad.add (0 + i)) = some u := fun i u hu => (hb.cell (by rw [block_of_add]; exact had)).trans (hcell _ u (by simpa using hu))
              have z := four_cells (q 0 _ (hx0 0 (by omega))) (q 1 _ (hx0 1 (by omega))) (q 2 _ (hx0 2 (by omega))) (q 3 _ (hx0 3 (by omega)))
              rwa [show ad.add (0 + 0) = ad by simp [Addr.add]] at z)
            have hsp : ad.spot = none := spot_none (HC0.out w16 (Below.refl _ _)).1
            have e4 : ad.add 4 = ⟨ad.block, ad.off + 4, none⟩ := (add_plain ad 4 hsp).symm
            have HC1 := hide (show ∀ w', Below w16.heap.size w16 w' → w'.cell? ⟨ad.block, ad.off + 4, none⟩ = some (.int .i64 r1) ∧ w'.cell? ⟨ad.block, ad.off + 4 + 1, none⟩ = some (.string r2) ∧ w'.cell? ⟨ad.block, ad.off + 4 + 2, none⟩ = some (.slice r3 r4 r5) ∧ w'.cell? ⟨ad.block, ad.off + 4 + 3, none⟩ = some (.slice r6 r7 r8) from fun w' hb => by
              have q : ∀ i u, xs[1 * 4 + i]? = some u → w'.cell? (ad.add (4 + i)) = some u := fun i u hu => (hb.cell (by rw [block_of_add]; exact had)).trans (hcell _ u (by simpa using hu))
              have z := four_cells (q 0 _ (hx1 0 (by omega))) (q 1 _ (hx1 1 (by omega))) (q 2 _ (hx1 2 (by omega))) (q 3 _ (hx1 3 (by omega)))
              rwa [show (4 + 0 : Nat) = 4 from rfl, e4] at z)
            clear e4
            have HV0 := hide (show VRd w16 (fun j => j < w16.heap.size) (gotJ (parseS la)) [.int .i64 p1, .string p2, .slice p3 p4 p5, .slice p6 p7 p8] from hv0)
            have HV1 := hide (show VRd w16 (fun j => j < w16.heap.size) (gotJ (parseS lb)) [.int .i64 r1, .string r2, .slice r3 r4 r5, .slice r6 r7 r8] from hv1)
            have hcy : 2 ≤ c2y := hcl.1
            clear hcell hx0 hx1 hv0 hv1 hry hly HVy hcl
            go_upto_region 19 with fail
            refine wp_region_stageW (by kernel_rfl) (by kernel_rfl) 153 2
              [⟨some 128, false, 0, 2, fun _ v _ => v = .pointer (some ⟨w15.heap.size, 0, none⟩)⟩,
               ⟨some 129, false, 0, 2, fun _ v _ => v = .int .i64 6⟩,
               ⟨some 130, false, 0, 2, fun _ v _ => v = .bool true⟩,
               ⟨some 131, false, 0, 2, fun _ v _ => v = .bool true⟩,
               ⟨some 132, false, 0, 2, fun _ v _ => v = .pointer (some ⟨w15.heap.size, 3, none⟩)⟩,
               ⟨some 133, false, 0, 2, fun _ v _ => v = .slice (some ad) 2 c2y⟩,
               ⟨some 134, false, 0, 2, fun _ v _ => v = .int .i64 2⟩,
               ⟨some 135, false, 0, 2, fun _ v _ => v = .bool true⟩,
               ⟨some 136, false, 0, 2, fun _ v _ => v = .bool true⟩,
               ⟨some 137, false, 0, 2, fun _ v _ => v = .bool true⟩,
               ⟨some 138, false, 0, 2, fun _ v _ => v = .pointer (some ⟨w15.heap.size, 3, none⟩)⟩,
               ⟨some 139, false, 0, 2, fun _ v _ => v = .slice (some ad) 2 c2y⟩,
               ⟨some 140, false, 0, 2, fun _ v _ => v = .pointer (some ad)⟩,
               ⟨some 141, false, 0, 2, fun _ v _ => v = .agg #[.int .i64 p1, .string p2, .slice p3 p4 p5, .slice p6 p7 p8]⟩,
               ⟨some 142, false, 0, 2, fun _ v _ => v = .agg #[.int .i64 ka, .string ta, .slice A1a n1a c1a, .slice A2a n2a c2a]⟩,
               ⟨some 143, true, 0, 0, fun _ v _ => v = .bool true⟩,
               ⟨some 144, false, 0, 2, fun _ v _ => v = .bool true⟩,
               ⟨some 145, false, 0, 2, fun _ v _ => v = .bool true⟩,
               ⟨some 146, false, 0, 2, fun _ v _ => v = .pointer (some ⟨w15.heap.size, 3, none⟩)⟩,
               ⟨some 147, false, 0, 2, fun _ v _ => v = .slice (some ad) 2 c2y⟩,
               ⟨some 148, false, 0, 2, fun _ v _ => v = .pointer (some (ad.add 4))⟩,
               ⟨some 149, false, 0, 2, fun _ v _ => v = .agg #[.int .i64 r1, .string r2, .slice r3 r4 r5, .slice r6 r7 r8]⟩,
               ⟨some 150, false, 0, 2, fun _ v _ => v = .agg #[.int .i64 kb, .string tb, .slice A1b n1b c1b, .slice A2b n2b c2b]⟩,
               ⟨some 151, true, 1, 1, fun _ v _ => v = .bool true⟩,
               ⟨some 152, false, 0, 2, fun _ v _ => v = .bool true⟩,
               ⟨some 6, false, 0, 2, fun _ v _ => v = .bool true⟩] (fun _ w' => Below w16.heap.size w16 w') (fun _ _ _ => True) [128, 129, 130, 131, 132, 133, 134, 135, 136, 137, 138, 139, 140, 141, 142, 143, 144, 145, 146, 147, 148, 149, 150, 151, 152, 6] rfl (by kernel_rfl) rfl ?g0 ?keep ?steps ?fin
            case keep =>
              intro e he s v w w' hm hlo hsM ht hv
              simp only [List.mem_cons, List.not_mem_nil, or_false] at he
              rcases he with rfl | rfl | rfl | rfl | rfl | rfl | rfl | rfl | rfl | rfl | rfl | rfl | rfl | rfl | rfl | rfl | rfl | rfl | rfl | rfl | rfl | rfl | rfl | rfl | rfl | rfl
              all_goals first | exact hv | (exfalso; dsimp only at hlo; omega) | (intro h3; exfalso; have := hm rfl; dsimp only at this; omega)
            case steps =>
              refine ⟨?_, ?_, ?_, ?_, ?_, ?_, ?_, ?_, ?_, ?_, ?_, ?_, ?_, ?_, ?_, ?_, ?_, ?_, ?_, ?_, ?_, ?_, ?_, ?_, ?_, ?_, trivial⟩
              · intro st hlo hhi ac w3 hg hG hd ho K hK
                dsimp only at hlo hhi hG hK
                rw [if_pos (by rfl)]
                have k19 := hg.kp 19 (by simp)
                (try simp [Act.eval] at k19)
                go_simp
                exact hK _ rfl
              · intro st hlo hhi ac w3 hg hG hd ho K hK
                dsimp only at hlo hhi hG hK
                rw [if_pos (by rfl)]
                have kk := (HCy.out.below hG HCy.out.lt).cell 0
                have zz := (HCy.out.below hG HCy.out.lt).lt
                simp at kk
                clear hG
                have f0 := hd ⟨0, .data⟩ (by simp) rfl _ rfl _ rfl
                (try simp [Act.eval] at f0)
                go_simp
                exact hK _ rfl
              · intro st hlo hhi ac w3 hg hG hd ho K hK
                dsimp only at hlo hhi hG hK
                rw [if_pos (by rfl)]
                have f1 := hd ⟨1, .data⟩ (by simp) rfl _ rfl _ rfl
                (try simp [Act.eval] at f1)
                go_simp
                exact hK _ rfl
              · intro st hlo hhi ac w3 hg hG hd ho K hK
                dsimp only at hlo hhi hG hK
                rw [if_pos (by rfl)]
                exact op_move _ rfl (hK _ (hd ⟨2, .data⟩ (by simp) rfl _ rfl _ rfl))
              · intro st hlo hhi ac w3 hg hG hd ho K hK
                dsimp only at hlo hhi hG hK
                rw [if_pos (wanted_of rfl rfl rfl (hd ⟨3, .guard⟩ (by simp) rfl _ rfl _ rfl))]
                have k19 := hg.kp 19 (by simp)
                (try simp [Act.eval] at k19)
                go_simp
                exact hK _ rfl
              · intro st hlo hhi ac w3 hg hG hd ho K hK
                dsimp only at hlo hhi hG hK
                rw [if_pos (wanted_of rfl rfl rfl (hd ⟨3, .guard⟩ (by simp) rfl _ rfl _ rfl))]
                have kk := (HCy.out.below hG HCy.out.lt).cell 3
                have zz := (HCy.out.below hG HCy.out.lt).lt
                simp at kk
                clear hG
                have f4 := hd ⟨4, .data⟩ (by simp) rfl _ rfl _ rfl
                (try simp [Act.eval] at f4)
                go_simp
                exact hK _ rfl
              · intro st hlo hhi ac w3 hg hG hd ho K hK
                dsimp only at hlo hhi hG hK
                rw [if_pos (wanted_of rfl rfl rfl (hd ⟨3, .guard⟩ (by simp) rfl _ rfl _ rfl))]
                have f5 := hd ⟨5, .data⟩ (by simp) rfl _ rfl _ rfl
                (try simp [Act.eval] at f5)
                go_simp
                exact hK _ rfl
              · intro st hlo hhi ac w3 hg hG hd ho K hK
                dsimp only at hlo hhi hG hK
                rw [if_pos (wanted_of rfl rfl rfl (hd ⟨3, .guard⟩ (by simp) rfl _ rfl _ rfl))]
                have f6 := hd ⟨6, .data⟩ (by simp) rfl _ rfl _ rfl
                (try simp [Act.eval] at f6)
                go_simp
                exact hK _ rfl
              · intro st hlo hhi ac w3 hg hG hd ho K hK
                dsimp only at hlo hhi hG hK
                rw [if_pos (by rfl)]
                have f3 := hd ⟨3, .data⟩ (by simp) rfl _ rfl _ rfl
                have f7 := hd ⟨7, .data⟩ (by simp) rfl _ rfl _ rfl
                (try simp [Act.eval] at f3)
                (try simp [Act.eval] at f7)
                go_simp
                exact hK _ rfl
              · intro st hlo hhi ac w3 hg hG hd ho K hK
                dsimp only at hlo hhi hG hK
                rw [if_pos (by rfl)]
                exact op_move _ rfl (hK _ (hd ⟨8, .data⟩ (by simp) rfl _ rfl _ rfl))
              · intro st hlo hhi ac w3 hg hG hd ho K hK
                dsimp only at hlo hhi hG hK
                rw [if_pos (wanted_of rfl rfl rfl (hd ⟨9, .guard⟩ (by simp) rfl _ rfl _ rfl))]
                have k19 := hg.kp 19 (by simp)
                (try simp [Act.eval] at k19)
                go_simp
                exact hK _ rfl
              · intro st hlo hhi ac w3 hg hG hd ho K hK
                dsimp only at hlo hhi hG hK
                rw [if_pos (wanted_of rfl rfl rfl (hd ⟨9, .guard⟩ (by simp) rfl _ rfl _ rfl))]
                have kk := (HCy.out.below hG HCy.out.lt).cell 3
                have zz := (HCy.out.below hG HCy.out.lt).lt
                simp at kk
                clear hG
                have f10 := hd ⟨10, .data⟩ (by simp) rfl _ rfl _ rfl
                (try simp [Act.eval] at f10)
                go_simp
                exact hK _ rfl
              · intro st hlo hhi ac w3 hg hG hd ho K hK
                dsimp only at hlo hhi hG hK
                rw [if_pos (wanted_of rfl rfl rfl (hd ⟨9, .guard⟩ (by simp) rfl _ rfl _ rfl))]
                have f11 := hd ⟨11, .data⟩ (by simp) rfl _ rfl _ rfl
                (try simp [Act.eval] at f11)
                go_simp
                exact hK _ rfl
              · intro st hlo hhi ac w3 hg hG hd ho K hK
                dsimp only at hlo hhi hG hK
                rw [if_pos (wanted_of rfl rfl rfl (hd ⟨9, .guard⟩ (by simp) rfl _ rfl _ rfl))]
                obtain ⟨k0, k1, k2, k3⟩ := HC0.out _ hG
                have zz : ad.block < w3.heap.size := Nat.lt_of_lt_of_le had hG.size
                clear hG
                have f12 := hd ⟨12, .data⟩ (by simp) rfl _ rfl _ rfl
                (try simp [Act.eval] at f12)
                go_simp
                exact hK _ rfl
              · intro st hlo hhi ac w3 hg hG hd ho K hK
                dsimp only at hlo hhi hG hK
                rw [if_pos (wanted_of rfl rfl rfl (hd ⟨9, .guard⟩ (by simp) rfl _ rfl _ rfl))]
                have kk := (HCa2.out.below hG HCa2.out.lt).cell
                have zz := (HCa2.out.below hG HCa2.out.lt).lt
                clear hG
                have k9 := hg.kp 9 (by simp)
                (try simp [Act.eval] at k9)
                go_simp
                exact hK _ rfl
              · intro ac w3 hg hG hd ho K hK
                dsimp only [Nat.zero_add, Nat.reduceAdd] at hG hK
                rw [if_pos (wanted_of rfl rfl rfl (hd ⟨9, .guard⟩ (by simp) rfl _ rfl _ rfl))]
                have f13 := hd ⟨13, .data⟩ (by simp) rfl _ rfl _ rfl
                have f14 := hd ⟨14, .data⟩ (by simp) rfl _ rfl _ rfl
                have HG := hide hG
                clear hG
                simp [Act.eval] at f13 f14
                go_simp
                (refine (same_any (HV0.out.later HG.out) (HVa2.out.later HG.out)).mono ?_)
                rintro e w20 ⟨rfl, hb⟩
                (rw [eqJ_refl])
                exact hK _ _ trivial (HG.out.trans (hb.mono HG.out.size)) rfl
              · intro st hlo hhi ac w3 hg hG hd ho K hK
                dsimp only at hlo hhi hG hK
                rw [if_pos (by rfl)]
                have f9 := hd ⟨9, .data⟩ (by simp) rfl _ rfl _ rfl
                have f15 := hd ⟨15, .data⟩ (by simp) rfl _ rfl _ rfl
                (try simp [Act.eval] at f9)
                (try simp [Act.eval] at f15)
                go_simp
                exact hK _ rfl
              · intro st hlo hhi ac w3 hg hG hd ho K hK
                dsimp only at hlo hhi hG hK
                rw [if_pos (by rfl)]
                exact op_move _ rfl (hK _ (hd ⟨16, .data⟩ (by simp) rfl _ rfl _ rfl))
              · intro st hlo hhi ac w3 hg hG hd ho K hK
                dsimp only at hlo hhi hG hK
                rw [if_pos (wanted_of rfl rfl rfl (hd ⟨17, .guard⟩ (by simp) rfl _ rfl _ rfl))]
                have k19 := hg.kp 19 (by simp)
                (try simp [Act.eval] at k19)
                go_simp
                exact hK _ rfl
              · intro st hlo hhi ac w3 hg hG hd ho K hK
                dsimp only at hlo hhi hG hK
                rw [if_pos (wanted_of rfl rfl rfl (hd ⟨17, .guard⟩ (by simp) rfl _ rfl _ rfl))]
                have kk := (HCy.out.below hG HCy.out.lt).cell 3
                have zz := (HCy.out.below hG HCy.out.lt).lt
                simp at kk
                clear hG
                have f18 := hd ⟨18, .data⟩ (by simp) rfl _ rfl _ rfl
                (try simp [Act.eval] at f18)
                go_simp
                exact hK _ rfl
              · intro st hlo hhi ac w3 hg hG hd ho K hK
                dsimp only at hlo hhi hG hK
                rw [if_pos (wanted_of rfl rfl rfl (hd ⟨17, .guard⟩ (by simp) rfl _ rfl _ rfl))]
                have f19 := hd ⟨19, .data⟩ (by simp) rfl _ rfl _ rfl
                (try simp [Act.eval] at f19)
                go_simp
                exact hK _ rfl
              · intro st hlo hhi ac w3 hg hG hd ho K hK
                dsimp only at hlo hhi hG hK
                rw [if_pos (wanted_of rfl rfl rfl (hd ⟨17, .guard⟩ (by simp) rfl _ rfl _ rfl))]
                obtain ⟨k0, k1, k2, k3⟩ := HC1.out _ hG
                have zz : ad.block < w3.heap.size := Nat.lt_of_lt_of_le had hG.size
                clear hG
                have f20 := hd ⟨20, .data⟩ (by simp) rfl _ rfl _ rfl
                (try simp [Act.eval] at f20)
                go_simp
                exact hK _ rfl
              · intro st hlo hhi ac w3 hg hG hd ho K hK
                dsimp only at hlo hhi hG hK
                rw [if_pos (wanted_of rfl rfl rfl (hd ⟨17, .guard⟩ (by simp) rfl _ rfl _ rfl))]
                have kk := (HCb2.out.below hG HCb2.out.lt).cell
                have zz := (HCb2.out.below hG HCb2.out.lt).lt
                clear hG
                have k12 := hg.kp 12 (by simp)
                (try simp [Act.eval] at k12)
                go_simp
                exact hK _ rfl
              · intro ac w3 hg hG hd ho K hK
                dsimp only [Nat.zero_add, Nat.reduceAdd] at hG hK
                rw [if_pos (wanted_of rfl rfl rfl (hd ⟨17, .guard⟩ (by simp) rfl _ rfl _ rfl))]
                have f21 := hd ⟨21, .data⟩ (by simp) rfl _ rfl _ rfl
                have f22 := hd ⟨22, .data⟩ (by simp) rfl _ rfl _ rfl
                have HG := hide hG
                clear hG
                simp [Act.eval] at f21 f22
                go_simp
                (refine (same_any (HV1.out.later HG.out) (HVb2.out.later HG.out)).mono ?_)
                rintro e w20 ⟨rfl, hb⟩
                (rw [eqJ_refl])
                exact hK _ _ trivial (HG.out.trans (hb.mono HG.out.size)) rfl
              · intro st hlo hhi ac w3 hg hG hd ho K hK
                dsimp only at hlo hhi hG hK
                rw [if_pos (by rfl)]
                have f17 := hd ⟨17, .data⟩ (by simp) rfl _ rfl _ rfl
                have f23 := hd ⟨23, .data⟩ (by simp) rfl _ rfl _ rfl
                (try simp [Act.eval] at f17)
                (try simp [Act.eval] at f23)
                go_simp
                exact hK _ rfl
              · intro st hlo hhi ac w3 hg hG hd ho K hK
                dsimp only at hlo hhi hG hK
                rw [if_pos (by rfl)]
                exact op_assign _ rfl (hK _ (hd ⟨24, .data⟩ (by simp) rfl _ rfl _ rfl))
            case g0 => exact (Below.refl _ _).drew
            case fin =>
              intro f9 w20 hG hall
              have HB20 := hide (HBw16.out.trans (hG.mono HBw16.out.size))
              have hr := hall _ (List.mem_of_getElem? (i := 25) rfl) 6 rfl
              clear hall hG
              simp only [fillF, List.map_cons, List.map_nil, List.foldl_cons, List.foldl_nil, Act.put, List.setIfInBounds_toArray, List.set_cons_zero, List.set_cons_succ]
              rw [hr]
              go_wp2_with fail
              go_ret
              exact ⟨rfl, HB20.out⟩
          · have e12 : ey = 12 := by
              rcases HL.out with h | ⟨p, h⟩
              · have := HEY.out; rw [h] at this; exact absurd this.symm hy0
              · have := HEY.out; rw [h] at this; exact this.symm
            subst e12
            go_wp2_with fail
            go_ret
            exact ⟨rfl, HBw16.out⟩
        · subst ha0
          have e6 : ((eb : Int) != 0) = true := by simp; omega
          go_wp2_with fail
          go_ret
          exact ⟨rfl, HBw16.out⟩
      · have e6 : ((ea : Int) != 0) = true := by simp; omega
        go_wp2_with fail
        go_ret
        exact ⟨rfl, HBw16.out⟩
end Go.Proofs.YtmbjalcphdggnaaDoor
