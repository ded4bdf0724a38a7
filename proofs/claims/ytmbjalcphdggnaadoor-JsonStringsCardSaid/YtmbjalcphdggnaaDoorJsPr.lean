/- The law on strings, walked. -/
import Derived.Test.YtmbjalcphdggnaaDoorJsPq
namespace Go.Proofs.YtmbjalcphdggnaaDoor
set_option linter.unusedSimpArgs false
set_option linter.unusedVariables false
open Go.RowKit
theorem one_cut' {s : L8} {j : Nat} (h : j < s.length) {y : UInt8} (hy : (⟨s.toArray⟩ : ByteArray)[j]'(by show j < s.toArray.size; simpa using h) = y) : (⟨s.toArray⟩ : ByteArray).extract j (j + 1) = ⟨#[y]⟩ := one_cut h hy
theorem hexU_cut {a : Nat} (h : a < 16) : (⟨#[48, 49, 50, 51, 52, 53, 54, 55, 56, 57, 65, 66, 67, 68, 69, 70]⟩ : ByteArray).extract a (a + 1) = ⟨#[hexUD.getD a 0]⟩ := by
  have : ∀ a : Fin 16, (⟨#[48, 49, 50, 51, 52, 53, 54, 55, 56, 57, 65, 66, 67, 68, 69, 70]⟩ : ByteArray).extract a.val (a.val + 1) = ⟨#[hexUD.getD a.val 0]⟩ := by decide +kernel
  exact this ⟨a, h⟩
theorem ba_one (a : L8) (b : List UInt8) : (⟨a.toArray⟩ ++ ⟨b.toArray⟩ : ByteArray) = ⟨(a ++ b).toArray⟩ := ba_app a b
abbrev blc (b : Bool) : Value := .bool b
/-- Bools that are read. -/
abbrev RBo (w : World) (B : Nat) (A : Option Addr) (n : Nat) (l : List Bool) : Prop := Reads w B 1 A n (l.map blc)
theorem RBo.at_ {w : World} {B n : Nat} {A : Option Addr} {l : List Bool} (h : RBo w B A n l) {k : Nat} (hk : k < n) : ∃ ad b, A = some ad ∧ ad.block < B ∧ w.cell? (ad.add k) = some (.bool b) := by
  have hl := h.1
  rw [List.length_map] at hl
  obtain ⟨ad, e, hb, hc⟩ := h.2 (by omega)
  refine ⟨ad, l[k]'(by omega), e, hb, hc k _ ?_⟩
  rw [List.getElem?_map, List.getElem?_eq_getElem (by omega)]
  rfl
set_option maxRecDepth 100000 in
set_option maxHeartbeats 2000000 in
theorem strings_any (w : World) (s : L8) (A : Option Addr) (n c : Nat) (lb : List Bool) (hs : s.length ≤ 9223372036854775807) (hT : Tabs w) (hr : RBo w w.heap.size A n lb) (hc : n ≤ c) :
    Calls Tryd.prog 8 #[.string ⟨s.toArray⟩, .slice A n c] w fun e w' => e = .returned (.bool true) ∧ Below w.heap.size w w' := by
  have HT := hide hT
  have HR := hide hr
  clear hT hr
  by_cases hlg : 2000 < s.length
  · have d1 : decide ((2000 : Int) < (s.length : Int)) = true := by simp; omega
    go_enter Tryd.func8, Tryd.ntmps8
    go_wp2_with (first | (go_at_call 9; (refine (answers_any w1 (HT.out.below HB1.out)).mono ?_); rintro e w2 ⟨rfl, hb⟩; have HB2 := hide (HB1.out.trans (hb.mono HB1.out.size)); clear hb) | (go_at_call 9; (refine (answers_any w HT.out).mono ?_); rintro e w1 ⟨rfl, hb⟩; have HB1 := hide hb; clear hb))
    go_ret
    exact ⟨rfl, HB2.out⟩
  have d1 : decide ((2000 : Int) < (s.length : Int)) = false := by simp; omega
  have hs2 : s.length ≤ 2000 := by omega
  obtain ⟨m, hm⟩ : ∃ m, s.length = m := ⟨_, rfl⟩
  have HM := hide hm
  have HPE := hide (prE_str hs2)
  go_enter Tryd.func8, Tryd.ntmps8
  go_upto_region 3 with (go_at_call 9; (refine (answers_any w HT.out).mono ?_); rintro e w1 ⟨rfl, hb⟩; have HB1 := hide hb; clear hb)
  clear d1 hlg
  go_upto_region 4 with fail
  obtain ⟨w2, hw2⟩ : ∃ y, w1.alloc (.cells #[.int .i64 5, .string ⟨s.toArray⟩, .slice none 0 0, .slice none 0 0] TV) = y := ⟨_, rfl⟩
  have HB2 := hide (show Below w.heap.size w w2 from hw2 ▸ bal HB1.out _)
  have HC2 := hide (show Blk w2 w1.heap.size TV #[.int .i64 5, .string ⟨s.toArray⟩, .slice none 0 0, .slice none 0 0] from hw2 ▸ Blk.new _ _ _)
  have HV2 := hide (show VRd w2 (fun j => j < w2.heap.size) (.mk 5 s [] []) [.int .i64 5, .string ⟨s.toArray⟩, .slice none 0 0, .slice none 0 0] from vrd_leaf 5 s)
  have HT2 := hide (HT.out.below HB2.out)
  have HSM := hide (show smJ (.mk 5 s [] []) from smJ_mk (by omega) (by simp) (by unfold smL; trivial))
  rw [hw2]
  clear hw2
  have kv := HC2.out.cell; have fv := HC2.out.frozen; have zv := HC2.out.lt
  go_upto_region 5 with (go_at_call 13; (refine (print_any HSM.out HT2.out HV2.out).mono ?_); rintro e w3 ⟨hb, A3, n3, c3, rfl, hc3, hA3, hr3⟩; have HB3 := hide (HB2.out.trans (hb.mono HB2.out.size)); have HR3 := hide hr3; have HA3 := hide hA3; have HC3 := hide (HC2.out.below hb HC2.out.lt); have HV3 := hide (HV2.out.later hb); clear hb hr3 hA3)
  clear kv fv zv HC2 HV2 HT2
  cases hval : Lib.validD s
  · have HVD := hide hval
    have HP2 := hide (show prE (.mk 5 s [] []) = 2 from by rw [HPE.out, hval]; rfl)
    rw [HP2.out]
    clear hval
    go_wp2_with (go_at_call 16; (refine (utf8_any w3 s hs2).mono ?_); (rw [HVD.out]); rintro e w4 ⟨rfl, hb⟩; have HB4 := hide (HB3.out.trans (hb.mono HB3.out.size)); clear hb)
    go_ret
    exact ⟨rfl, HB4.out⟩
  have HVD := hide hval
  have HP2 := hide (show prE (.mk 5 s [] []) = 0 from by rw [HPE.out, hval]; rfl)
  have HPB := hide (pr_back HP2.out)
  rw [HP2.out]
  clear hval
  go_upto_region 7 with (go_at_call 16; (refine (utf8_any w3 s hs2).mono ?_); (rw [HVD.out]); rintro e w4 ⟨rfl, hb⟩; have HB4 := hide (HB3.out.trans (hb.mono HB3.out.size)); have HR4 := hide ((HR3.out.below hb).more hb.size); have HA4 := hide (show ∀ ad, A3 = some ad → ad.block < w4.heap.size from fun ad e => Nat.lt_of_lt_of_le (HA3.out ad e) hb.size); have HT4 := hide (HT.out.below HB4.out); have HC4 := hide (HC3.out.below hb HC3.out.lt); have HV4 := hide (HV3.out.later hb); clear hb)
  clear HR3 HA3 HC3 HV3
  go_upto_region 8 with (go_at_call 10; (refine (parse_uni HR4.out hc3 HT4.out HA4.out).mono ?_); rintro e w5 ⟨hb, kw, tw, A1w, n1w, c1w, A2w, n2w, c2w, atw, rfl, hv⟩; (rw [HPB.out.1]); (rw [HPB.out.2] at hv); have HB5 := hide (HB4.out.trans (hb.mono HB4.out.size)); have HC5 := hide (HC4.out.below hb HC4.out.lt); have HV5 := hide (HV4.out.later hb); have HVw := hide hv; clear hb hv)
  obtain ⟨w6, hw6⟩ : ∃ x, w5.alloc (.cells #[.int .i64 kw, .string tw, .slice A1w n1w c1w, .slice A2w n2w c2w] TV) = x := ⟨_, rfl⟩
  have HB6 := hide (show Below w.heap.size w w6 from hw6 ▸ bal HB5.out _)
  have HN6 := hide (show Below w5.heap.size w5 w6 from hw6 ▸ al_below w5 _)
  have HC6 := hide (HC5.out.below HN6.out HC5.out.lt)
  have HV6 := hide (HV5.out.later HN6.out)
  have HCw := hide (show Blk w6 w5.heap.size TV #[.int .i64 kw, .string tw, .slice A1w n1w c1w, .slice A2w n2w c2w] from hw6 ▸ Blk.new _ _ _)
  have HVw6 := hide (HVw.out.later HN6.out)
  rw [hw6]
  clear hw6 HN6 HC4 HC5 HV4 HV5 HVw HR4 HA4 HT4
  have kv := HC6.out.cell; have fv := HC6.out.frozen; have zv := HC6.out.lt
  have kw6 := HCw.out.cell; have fw6 := HCw.out.frozen; have zw6 := HCw.out.lt
  go_upto_region 10 with (go_at_call 11; (refine (same_any HV6.out HVw6.out).mono ?_); rintro e w7 ⟨rfl, hb⟩; (rw [eqJ_refl]); have HB7 := hide (HB6.out.trans (hb.mono HB6.out.size)); have HC7 := hide (HC6.out.below hb HC6.out.lt); have HV7 := hide (HV6.out.later hb); clear hb)
  clear kv fv zv kw6 fw6 zw6 HCw HVw6 HC6 HV6
  go_wp2_with fail
  go_loopw [11, 12] (fun tv iv wr => ∃ qs : List L8, iv = .int .i64 ((qs.length : Nat) : Int) ∧ tv = .string ⟨(34 :: qs.flatten).toArray⟩ ∧ qs.length ≤ m ∧ Hid (Wrt s qs) ∧ Hid (Below w7.heap.size w7 wr)) (fun _ iv _ => m - (intOf iv).toNat)
  case atStart => exact ⟨[], by go_num, by trivial, by simp, hide (Wrt.nil s), hide (Below.refl _ _)⟩
  case round =>
    obtain ⟨qs, rfl, rfl, hqm, HWr, HBr⟩ := hrel
    have HFL := hide (show (34 :: qs.flatten).length ≤ 12001 from by have := HWr.out.flat; simp only [List.length_cons]; omega)
    obtain ⟨i, hql⟩ : ∃ i, qs.length = i := ⟨_, rfl⟩
    obtain ⟨T, hTT⟩ : ∃ T, 34 :: qs.flatten = T := ⟨_, rfl⟩
    have HTT := hide hTT
    have hTl : T.length ≤ 12001 := by rw [← hTT]; exact HFL.out
    rw [hql, hTT]
    have HQL := hide hql
    clear hql hTT
    by_cases hlt : i < m
    · obtain ⟨x, hx⟩ : ∃ x, s[i]'(by omega) = x := ⟨_, rfl⟩
      have hxs : (⟨s.toArray⟩ : ByteArray)[i]'(by show i < s.toArray.size; simp; omega) = x := hx
      have HX := hide hx
      have hone : (⟨s.toArray⟩ : ByteArray).extract i (i + 1) = ⟨#[x]⟩ := one_cut' (by omega) hxs
      clear hx
      go_upto_region 15 with fail
      clear hxs
      by_cases h32 : x.toNat < 32
      · have t1 : decide ((32 : Int) ≤ (x.toNat : Int)) = false := by simp; omega
        have d128 : decide ((128 : Int) ≤ (x.toNat : Int)) = false := by simp; omega
        have HT2 := hide (show (34 :: (qs ++ [pcU x]).flatten) = T ++ pcU x from by rw [← HTT.out]; simp)
        have HEU := hide (show EU x (pcU x) from .inr ⟨by omega, rfl⟩)
        (try clear h34)
        (try clear h92)
        go_upto_region 18 with fail
        obtain ⟨a, ha⟩ : ∃ a, x.toNat / 16 = a := ⟨_, rfl⟩
        obtain ⟨b, hb⟩ : ∃ b, x.toNat % 16 = b := ⟨_, rfl⟩
        have ha16 : a < 16 := by have := x.toNat_lt; omega
        have hb16 : b < 16 := by omega
        have e1 : (x.toNat : Int) / 16 = (a : Int) := by omega
        have e2 : (x.toNat : Int) % 16 = (b : Int) := by omega
        have e3 : IntKind.u8.wrap ((a : Int) + 1) = (a : Int) + 1 := by simp [IntKind.wrap, IntKind.bits, IntKind.signed]; omega
        have e4 : IntKind.u8.wrap ((b : Int) + 1) = (b : Int) + 1 := by simp [IntKind.wrap, IntKind.bits, IntKind.signed]; omega
        have g1 : (0 : Int) ≤ (a : Int) + 1 := by omega
        have g2 : (a : Int) + 1 ≤ 16 := by omega
        have g3 : (a : Int) ≤ (a : Int) + 1 := by omega
        have g4 : (0 : Int) ≤ (b : Int) + 1 := by omega
        have g5 : (b : Int) + 1 ≤ 16 := by omega
        have g6 : (b : Int) ≤ (b : Int) + 1 := by omega
        obtain ⟨da, hda⟩ : ∃ d, hexUD.getD a 0 = d := ⟨_, rfl⟩
        obtain ⟨db, hdb⟩ : ∃ d, hexUD.getD b 0 = d := ⟨_, rfl⟩
        have c1 := hexU_cut ha16
        have c2 := hexU_cut hb16
        have HPC := hide (show T ++ pcU x = T ++ [92, 117, 48, 48, da, db] from by unfold pcU; rw [ha, hb, hda, hdb])
        rw [hda] at c1
        rw [hdb] at c2
        have q1 : (⟨T.toArray⟩ ++ ⟨#[92, 117, 48, 48]⟩ : ByteArray) = ⟨(T ++ [92, 117, 48, 48]).toArray⟩ := ba_one T [92, 117, 48, 48]
        have q2 : (⟨(T ++ [92, 117, 48, 48]).toArray⟩ ++ ⟨#[da]⟩ : ByteArray) = ⟨(T ++ [92, 117, 48, 48, da]).toArray⟩ := by rw [show (#[da] : Array UInt8) = ([da] : List UInt8).toArray from rfl, ba_one]; simp
        have q3 : (⟨(T ++ [92, 117, 48, 48, da]).toArray⟩ ++ ⟨#[db]⟩ : ByteArray) = ⟨(T ++ [92, 117, 48, 48, da, db]).toArray⟩ := by rw [show (#[db] : Array UInt8) = ([db] : List UInt8).toArray from rfl, ba_one]; simp
        clear ha hb hda hdb hone
        go_quiet (fail)
        clear q1 q2 q3 c1 c2 e1 e2 e3 e4 g1 g2 g3 g4 g5 g6
        go_wp2_with fail
        go_roundw
        case rel => exact ⟨qs ++ [pcU x], by rw [List.length_append, HQL.out]; go_num, by rw [HT2.out, HPC.out], by rw [List.length_append, HQL.out]; simp; omega, hide (HWr.out.snoc (by rw [HQL.out, HM.out]; exact hlt) (by simp only [HQL.out]; exact HX.out) HEU.out), hide (HBr.out.trans ((below_drewN _ _).mono HBr.out.size))⟩
        case measure => simp [intOf]; omega
      have t1 : decide ((32 : Int) ≤ (x.toNat : Int)) = true := by simp; omega
      by_cases h34 : x.toNat = 34
      · have t2 : ((x.toNat : Int) != 34) = false := by simp; omega
        have d128 : decide ((128 : Int) ≤ (x.toNat : Int)) = false := by simp; omega
        have HT2 := hide (show (34 :: (qs ++ [pcU x]).flatten) = T ++ pcU x from by rw [← HTT.out]; simp)
        have HEU := hide (show EU x (pcU x) from .inr ⟨by omega, rfl⟩)
        (try clear h34)
        (try clear h92)
        go_upto_region 18 with fail
        obtain ⟨a, ha⟩ : ∃ a, x.toNat / 16 = a := ⟨_, rfl⟩
        obtain ⟨b, hb⟩ : ∃ b, x.toNat % 16 = b := ⟨_, rfl⟩
        have ha16 : a < 16 := by have := x.toNat_lt; omega
        have hb16 : b < 16 := by omega
        have e1 : (x.toNat : Int) / 16 = (a : Int) := by omega
        have e2 : (x.toNat : Int) % 16 = (b : Int) := by omega
        have e3 : IntKind.u8.wrap ((a : Int) + 1) = (a : Int) + 1 := by simp [IntKind.wrap, IntKind.bits, IntKind.signed]; omega
        have e4 : IntKind.u8.wrap ((b : Int) + 1) = (b : Int) + 1 := by simp [IntKind.wrap, IntKind.bits, IntKind.signed]; omega
        have g1 : (0 : Int) ≤ (a : Int) + 1 := by omega
        have g2 : (a : Int) + 1 ≤ 16 := by omega
        have g3 : (a : Int) ≤ (a : Int) + 1 := by omega
        have g4 : (0 : Int) ≤ (b : Int) + 1 := by omega
        have g5 : (b : Int) + 1 ≤ 16 := by omega
        have g6 : (b : Int) ≤ (b : Int) + 1 := by omega
        obtain ⟨da, hda⟩ : ∃ d, hexUD.getD a 0 = d := ⟨_, rfl⟩
        obtain ⟨db, hdb⟩ : ∃ d, hexUD.getD b 0 = d := ⟨_, rfl⟩
        have c1 := hexU_cut ha16
        have c2 := hexU_cut hb16
        have HPC := hide (show T ++ pcU x = T ++ [92, 117, 48, 48, da, db] from by unfold pcU; rw [ha, hb, hda, hdb])
        rw [hda] at c1
        rw [hdb] at c2
        have q1 : (⟨T.toArray⟩ ++ ⟨#[92, 117, 48, 48]⟩ : ByteArray) = ⟨(T ++ [92, 117, 48, 48]).toArray⟩ := ba_one T [92, 117, 48, 48]
        have q2 : (⟨(T ++ [92, 117, 48, 48]).toArray⟩ ++ ⟨#[da]⟩ : ByteArray) = ⟨(T ++ [92, 117, 48, 48, da]).toArray⟩ := by rw [show (#[da] : Array UInt8) = ([da] : List UInt8).toArray from rfl, ba_one]; simp
        have q3 : (⟨(T ++ [92, 117, 48, 48, da]).toArray⟩ ++ ⟨#[db]⟩ : ByteArray) = ⟨(T ++ [92, 117, 48, 48, da, db]).toArray⟩ := by rw [show (#[db] : Array UInt8) = ([db] : List UInt8).toArray from rfl, ba_one]; simp
        clear ha hb hda hdb hone
        go_quiet (fail)
        clear q1 q2 q3 c1 c2 e1 e2 e3 e4 g1 g2 g3 g4 g5 g6
        go_wp2_with fail
        go_roundw
        case rel => exact ⟨qs ++ [pcU x], by rw [List.length_append, HQL.out]; go_num, by rw [HT2.out, HPC.out], by rw [List.length_append, HQL.out]; simp; omega, hide (HWr.out.snoc (by rw [HQL.out, HM.out]; exact hlt) (by simp only [HQL.out]; exact HX.out) HEU.out), hide (HBr.out.trans ((below_drewN _ _).mono HBr.out.size))⟩
        case measure => simp [intOf]; omega
      have t2 : ((x.toNat : Int) != 34) = true := by simp; omega
      by_cases h92 : x.toNat = 92
      · have t3 : ((x.toNat : Int) != 92) = false := by simp; omega
        have d128 : decide ((128 : Int) ≤ (x.toNat : Int)) = false := by simp; omega
        have HT2 := hide (show (34 :: (qs ++ [pcU x]).flatten) = T ++ pcU x from by rw [← HTT.out]; simp)
        have HEU := hide (show EU x (pcU x) from .inr ⟨by omega, rfl⟩)
        (try clear h34)
        (try clear h92)
        go_upto_region 18 with fail
        obtain ⟨a, ha⟩ : ∃ a, x.toNat / 16 = a := ⟨_, rfl⟩
        obtain ⟨b, hb⟩ : ∃ b, x.toNat % 16 = b := ⟨_, rfl⟩
        have ha16 : a < 16 := by have := x.toNat_lt; omega
        have hb16 : b < 16 := by omega
        have e1 : (x.toNat : Int) / 16 = (a : Int) := by omega
        have e2 : (x.toNat : Int) % 16 = (b : Int) := by omega
        have e3 : IntKind.u8.wrap ((a : Int) + 1) = (a : Int) + 1 := by simp [IntKind.wrap, IntKind.bits, IntKind.signed]; omega
        have e4 : IntKind.u8.wrap ((b : Int) + 1) = (b : Int) + 1 := by simp [IntKind.wrap, IntKind.bits, IntKind.signed]; omega
        have g1 : (0 : Int) ≤ (a : Int) + 1 := by omega
        have g2 : (a : Int) + 1 ≤ 16 := by omega
        have g3 : (a : Int) ≤ (a : Int) + 1 := by omega
        have g4 : (0 : Int) ≤ (b : Int) + 1 := by omega
        have g5 : (b : Int) + 1 ≤ 16 := by omega
        have g6 : (b : Int) ≤ (b : Int) + 1 := by omega
        obtain ⟨da, hda⟩ : ∃ d, hexUD.getD a 0 = d := ⟨_, rfl⟩
        obtain ⟨db, hdb⟩ : ∃ d, hexUD.getD b 0 = d := ⟨_, rfl⟩
        have c1 := hexU_cut ha16
        have c2 := hexU_cut hb16
        have HPC := hide (show T ++ pcU x = T ++ [92, 117, 48, 48, da, db] from by unfold pcU; rw [ha, hb, hda, hdb])
        rw [hda] at c1
        rw [hdb] at c2
        have q1 : (⟨T.toArray⟩ ++ ⟨#[92, 117, 48, 48]⟩ : ByteArray) = ⟨(T ++ [92, 117, 48, 48]).toArray⟩ := ba_one T [92, 117, 48, 48]
        have q2 : (⟨(T ++ [92, 117, 48, 48]).toArray⟩ ++ ⟨#[da]⟩ : ByteArray) = ⟨(T ++ [92, 117, 48, 48, da]).toArray⟩ := by rw [show (#[da] : Array UInt8) = ([da] : List UInt8).toArray from rfl, ba_one]; simp
        have q3 : (⟨(T ++ [92, 117, 48, 48, da]).toArray⟩ ++ ⟨#[db]⟩ : ByteArray) = ⟨(T ++ [92, 117, 48, 48, da, db]).toArray⟩ := by rw [show (#[db] : Array UInt8) = ([db] : List UInt8).toArray from rfl, ba_one]; simp
        clear ha hb hda hdb hone
        go_quiet (fail)
        clear q1 q2 q3 c1 c2 e1 e2 e3 e4 g1 g2 g3 g4 g5 g6
        go_wp2_with fail
        go_roundw
        case rel => exact ⟨qs ++ [pcU x], by rw [List.length_append, HQL.out]; go_num, by rw [HT2.out, HPC.out], by rw [List.length_append, HQL.out]; simp; omega, hide (HWr.out.snoc (by rw [HQL.out, HM.out]; exact hlt) (by simp only [HQL.out]; exact HX.out) HEU.out), hide (HBr.out.trans ((below_drewN _ _).mono HBr.out.size))⟩
        case measure => simp [intOf]; omega
      have t3 : ((x.toNat : Int) != 92) = true := by simp; omega
      by_cases hin : i < n
      · have t4 : decide ((n : Int) ≤ (i : Int)) = false := by simp; omega
        obtain ⟨ad, hb, rfl, hab, hcell⟩ := HR.out.at_ hin
        have kh := (HBr.out.cell (show (ad.add i).block < w7.heap.size by rw [block_of_add]; exact Nat.lt_of_lt_of_le hab HB7.out.size)).trans ((HB7.out.cell (show (ad.add i).block < w.heap.size by rw [block_of_add]; exact hab)).trans hcell)
        have zh : ad.block < wr.heap.size := Nat.lt_of_lt_of_le hab (Nat.le_trans HB7.out.size HBr.out.size)
        have hic : i ≤ c := by omega
        have hic2 : i < c := by omega
        clear hcell
        cases hb
        · go_upto_region 16 with fail
          clear t1 t2 t3 t4 kh
          by_cases h128 : 128 ≤ x.toNat
          · have d128 : decide ((128 : Int) ≤ (x.toNat : Int)) = true := by simp; omega
            have HT2 := hide (show (34 :: (qs ++ [[x]]).flatten) = T ++ [x] from by rw [← HTT.out]; simp)
            have HEU := hide (show EU x [x] from .inl ⟨rfl, by omega⟩)
            have hcat : (⟨T.toArray⟩ ++ ⟨#[x]⟩ : ByteArray) = ⟨(T ++ [x]).toArray⟩ := ba_one T [x]
            go_wp2_with fail
            go_roundw
            case rel => exact ⟨qs ++ [[x]], by rw [List.length_append, HQL.out]; go_num, by rw [HT2.out], by rw [List.length_append, HQL.out]; simp; omega, hide (HWr.out.snoc (by rw [HQL.out, HM.out]; exact hlt) (by simp only [HQL.out]; exact HX.out) HEU.out), HBr⟩
            case measure => simp [intOf]; omega
          have d128 : decide ((128 : Int) ≤ (x.toNat : Int)) = false := by simp; omega
          have HT2 := hide (show (34 :: (qs ++ [[x]]).flatten) = T ++ [x] from by rw [← HTT.out]; simp)
          have HEU := hide (show EU x [x] from .inl ⟨rfl, by omega⟩)
          have hcat : (⟨T.toArray⟩ ++ ⟨#[x]⟩ : ByteArray) = ⟨(T ++ [x]).toArray⟩ := ba_one T [x]
          go_wp2_with fail
          go_roundw
          case rel => exact ⟨qs ++ [[x]], by rw [List.length_append, HQL.out]; go_num, by rw [HT2.out], by rw [List.length_append, HQL.out]; simp; omega, hide (HWr.out.snoc (by rw [HQL.out, HM.out]; exact hlt) (by simp only [HQL.out]; exact HX.out) HEU.out), HBr⟩
          case measure => simp [intOf]; omega
        · go_upto_region 16 with fail
          clear t1 t2 t3 t4 kh
          by_cases h128 : 128 ≤ x.toNat
          · have d128 : decide ((128 : Int) ≤ (x.toNat : Int)) = true := by simp; omega
            have HT2 := hide (show (34 :: (qs ++ [[x]]).flatten) = T ++ [x] from by rw [← HTT.out]; simp)
            have HEU := hide (show EU x [x] from .inl ⟨rfl, by omega⟩)
            have hcat : (⟨T.toArray⟩ ++ ⟨#[x]⟩ : ByteArray) = ⟨(T ++ [x]).toArray⟩ := ba_one T [x]
            go_wp2_with fail
            go_roundw
            case rel => exact ⟨qs ++ [[x]], by rw [List.length_append, HQL.out]; go_num, by rw [HT2.out], by rw [List.length_append, HQL.out]; simp; omega, hide (HWr.out.snoc (by rw [HQL.out, HM.out]; exact hlt) (by simp only [HQL.out]; exact HX.out) HEU.out), HBr⟩
            case measure => simp [intOf]; omega
          have d128 : decide ((128 : Int) ≤ (x.toNat : Int)) = false := by simp; omega
          have HT2 := hide (show (34 :: (qs ++ [pcU x]).flatten) = T ++ pcU x from by rw [← HTT.out]; simp)
          have HEU := hide (show EU x (pcU x) from .inr ⟨by omega, rfl⟩)
          (try clear h34)
          (try clear h92)
          go_upto_region 18 with fail
          obtain ⟨a, ha⟩ : ∃ a, x.toNat / 16 = a := ⟨_, rfl⟩
          obtain ⟨b, hb⟩ : ∃ b, x.toNat % 16 = b := ⟨_, rfl⟩
          have ha16 : a < 16 := by have := x.toNat_lt; omega
          have hb16 : b < 16 := by omega
          have e1 : (x.toNat : Int) / 16 = (a : Int) := by omega
          have e2 : (x.toNat : Int) % 16 = (b : Int) := by omega
          have e3 : IntKind.u8.wrap ((a : Int) + 1) = (a : Int) + 1 := by simp [IntKind.wrap, IntKind.bits, IntKind.signed]; omega
          have e4 : IntKind.u8.wrap ((b : Int) + 1) = (b : Int) + 1 := by simp [IntKind.wrap, IntKind.bits, IntKind.signed]; omega
          have g1 : (0 : Int) ≤ (a : Int) + 1 := by omega
          have g2 : (a : Int) + 1 ≤ 16 := by omega
          have g3 : (a : Int) ≤ (a : Int) + 1 := by omega
          have g4 : (0 : Int) ≤ (b : Int) + 1 := by omega
          have g5 : (b : Int) + 1 ≤ 16 := by omega
          have g6 : (b : Int) ≤ (b : Int) + 1 := by omega
          obtain ⟨da, hda⟩ : ∃ d, hexUD.getD a 0 = d := ⟨_, rfl⟩
          obtain ⟨db, hdb⟩ : ∃ d, hexUD.getD b 0 = d := ⟨_, rfl⟩
          have c1 := hexU_cut ha16
          have c2 := hexU_cut hb16
          have HPC := hide (show T ++ pcU x = T ++ [92, 117, 48, 48, da, db] from by unfold pcU; rw [ha, hb, hda, hdb])
          rw [hda] at c1
          rw [hdb] at c2
          have q1 : (⟨T.toArray⟩ ++ ⟨#[92, 117, 48, 48]⟩ : ByteArray) = ⟨(T ++ [92, 117, 48, 48]).toArray⟩ := ba_one T [92, 117, 48, 48]
          have q2 : (⟨(T ++ [92, 117, 48, 48]).toArray⟩ ++ ⟨#[da]⟩ : ByteArray) = ⟨(T ++ [92, 117, 48, 48, da]).toArray⟩ := by rw [show (#[da] : Array UInt8) = ([da] : List UInt8).toArray from rfl, ba_one]; simp
          have q3 : (⟨(T ++ [92, 117, 48, 48, da]).toArray⟩ ++ ⟨#[db]⟩ : ByteArray) = ⟨(T ++ [92, 117, 48, 48, da, db]).toArray⟩ := by rw [show (#[db] : Array UInt8) = ([db] : List UInt8).toArray from rfl, ba_one]; simp
          clear ha hb hda hdb hone
          go_quiet (fail)
          clear q1 q2 q3 c1 c2 e1 e2 e3 e4 g1 g2 g3 g4 g5 g6
          go_wp2_with fail
          go_roundw
          case rel => exact ⟨qs ++ [pcU x], by rw [List.length_append, HQL.out]; go_num, by rw [HT2.out, HPC.out], by rw [List.length_append, HQL.out]; simp; omega, hide (HWr.out.snoc (by rw [HQL.out, HM.out]; exact hlt) (by simp only [HQL.out]; exact HX.out) HEU.out), hide (HBr.out.trans ((below_drewN _ _).mono HBr.out.size))⟩
          case measure => simp [intOf]; omega
      · have t4 : decide ((n : Int) ≤ (i : Int)) = true := by simp; omega
        go_upto_region 16 with fail
        clear t1 t2 t3 t4
        by_cases h128 : 128 ≤ x.toNat
        · have d128 : decide ((128 : Int) ≤ (x.toNat : Int)) = true := by simp; omega
          have HT2 := hide (show (34 :: (qs ++ [[x]]).flatten) = T ++ [x] from by rw [← HTT.out]; simp)
          have HEU := hide (show EU x [x] from .inl ⟨rfl, by omega⟩)
          have hcat : (⟨T.toArray⟩ ++ ⟨#[x]⟩ : ByteArray) = ⟨(T ++ [x]).toArray⟩ := ba_one T [x]
          go_wp2_with fail
          go_roundw
          case rel => exact ⟨qs ++ [[x]], by rw [List.length_append, HQL.out]; go_num, by rw [HT2.out], by rw [List.length_append, HQL.out]; simp; omega, hide (HWr.out.snoc (by rw [HQL.out, HM.out]; exact hlt) (by simp only [HQL.out]; exact HX.out) HEU.out), HBr⟩
          case measure => simp [intOf]; omega
        have d128 : decide ((128 : Int) ≤ (x.toNat : Int)) = false := by simp; omega
        have HT2 := hide (show (34 :: (qs ++ [[x]]).flatten) = T ++ [x] from by rw [← HTT.out]; simp)
        have HEU := hide (show EU x [x] from .inl ⟨rfl, by omega⟩)
        have hcat : (⟨T.toArray⟩ ++ ⟨#[x]⟩ : ByteArray) = ⟨(T ++ [x]).toArray⟩ := ba_one T [x]
        go_wp2_with fail
        go_roundw
        case rel => exact ⟨qs ++ [[x]], by rw [List.length_append, HQL.out]; go_num, by rw [HT2.out], by rw [List.length_append, HQL.out]; simp; omega, hide (HWr.out.snoc (by rw [HQL.out, HM.out]; exact hlt) (by simp only [HQL.out]; exact HX.out) HEU.out), HBr⟩
        case measure => simp [intOf]; omega
    · obtain rfl : i = m := by have := HQL.out; omega
      have HPW := hide (show parseS (T ++ [34]) = .ok (.mk 5 s [] []) from by
        rw [← HTT.out]
        exact parse_wrt HWr.out (HQL.out.trans HM.out.symm) HVD.out hs2)
      obtain ⟨y, hy⟩ : ∃ y, T ++ [34] = y := ⟨_, rfl⟩
      have hcat : (⟨T.toArray⟩ ++ ⟨#[34]⟩ : ByteArray) = ⟨y.toArray⟩ := by rw [← hy]; exact ba_one T [34]
      have hyl : y.length ≤ 12002 := by rw [← hy, List.length_append]; simp; omega
      have HYL := hide hyl
      rw [hy] at HPW
      clear hy hyl
      have HBw := hide (HB7.out.trans (HBr.out.mono HB7.out.size))
      obtain ⟨w9, hw9⟩ : ∃ x, Lib.bytesWorld wr T8 ⟨y.toArray⟩ = x := ⟨_, rfl⟩
      have hcx : (convert 9 22 (.string ⟨y.toArray⟩)).run Tryd.prog wr = .ok (.slice (some ⟨wr.heap.size, 0, none⟩) y.length (grownCap wr y.length 0 T8)) w9 := hw9 ▸ conv_run y wr
      have HR9 := hide (show RB w9 w9.heap.size (some ⟨wr.heap.size, 0, none⟩) y.length y from hw9 ▸ conv_rb y wr)
      have HK9 := hide (conv_cap y wr)
      have HN9 := hide (show Below wr.heap.size wr w9 from hw9 ▸ conv_below y wr)
      have HA9 := hide (show ∀ ad : Addr, (some (⟨wr.heap.size, 0, none⟩ : Addr)) = some ad → ad.block < w9.heap.size from hw9 ▸ conv_lt y wr)
      have HB9 := hide (HBw.out.trans (HN9.out.mono HBw.out.size))
      have HT9 := hide (HT.out.below HB9.out)
      have HC9 := hide ((HC7.out.below HBr.out HC7.out.lt).below HN9.out (HC7.out.below HBr.out HC7.out.lt).lt)
      have HV9 := hide ((HV7.out.later HBr.out).later HN9.out)
      clear hw9
      go_upto_region 20 with (go_at_call 10; (refine (parse_uni HR9.out HK9.out HT9.out HA9.out).mono ?_); (rw [HPW.out]); rintro e w10 ⟨hb, kx, tx, A1x, n1x, c1x, A2x, n2x, c2x, atx, rfl, hv⟩; have HB10 := hide (HB9.out.trans (hb.mono HB9.out.size)); have HC10 := hide (HC9.out.below hb HC9.out.lt); have HV10 := hide (HV9.out.later hb); have HVx := hide hv; clear hb hv)
      obtain ⟨w11, hw11⟩ : ∃ x, w10.alloc (.cells #[.int .i64 kx, .string tx, .slice A1x n1x c1x, .slice A2x n2x c2x] TV) = x := ⟨_, rfl⟩
      have HB11 := hide (show Below w.heap.size w w11 from hw11 ▸ bal HB10.out _)
      have HN11 := hide (show Below w10.heap.size w10 w11 from hw11 ▸ al_below w10 _)
      have HC11 := hide (HC10.out.below HN11.out HC10.out.lt)
      have HV11 := hide (HV10.out.later HN11.out)
      have HCx := hide (show Blk w11 w10.heap.size TV #[.int .i64 kx, .string tx, .slice A1x n1x c1x, .slice A2x n2x c2x] from hw11 ▸ Blk.new _ _ _)
      have HVx11 := hide (show VRd w11 (fun j => j < w11.heap.size) (.mk 5 s [] []) _ from HVx.out.later HN11.out)
      rw [hw11]
      clear hw11 HN11 HC9 HC10 HV9 HV10 HVx HR9 HA9 HK9 hcx hcat
      have kv := HC11.out.cell; have fv := HC11.out.frozen; have zv := HC11.out.lt
      have kx1 := HCx.out.cell; have fx1 := HCx.out.frozen; have zx1 := HCx.out.lt
      go_wp2_with (go_at_call 11; (refine (same_any HV11.out HVx11.out).mono ?_); rintro e w12 ⟨rfl, hb⟩; (rw [eqJ_refl]); have HB12 := hide (HB11.out.trans (hb.mono HB11.out.size)); clear hb)
      go_ret
      exact ⟨rfl, HB12.out⟩
end Go.Proofs.YtmbjalcphdggnaaDoor
