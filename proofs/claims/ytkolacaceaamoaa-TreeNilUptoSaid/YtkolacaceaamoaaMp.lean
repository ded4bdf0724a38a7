/- The tree: Get, whose answer may be written to. -/
import Derived.Test.YtkolacaceaamoaaMo
/- The tree: Get, whose answer may be written to. -/
namespace Go.Proofs.Ytkolacaceaamoaa
set_option linter.unusedSimpArgs false
set_option linter.unusedVariables false
open Go.RowKit
/-- A block no part of which is frozen. -/
def Unf (w : World) (j : Nat) : Prop := ∃ cs t, w.heap[j]? = some (.cells cs t (0, 0))
theorem Unf.of {w w' : World} {j : Nat} (h : Unf w j) (e : w'.heap[j]? = w.heap[j]?) : Unf w' j := by
  obtain ⟨cs, t, h⟩ := h
  exact ⟨cs, t, e.trans h⟩
def ItU (w : World) (F : Nat → Prop) (x : It) (cs : List Value) : Prop := ItR w (fun j => F j ∧ Unf w j) x cs
theorem ItU.keep {w w' : World} {F F' : Nat → Prop} (hk : ∀ j, F j → j < w.heap.size → w'.heap[j]? = w.heap[j]?) (hF : ∀ j, F j → j < w.heap.size → F' j) (x : It) (cs : List Value) (h : ItU w F x cs) : ItU w' F' x cs :=
  ItR.keep (fun j hj hl => hk j hj.1 hl) (fun j hj hl => ⟨hF j hj.1 hl, hj.2.of (hk j hj.1 hl)⟩) x cs h
theorem BS.of_ownU {w : World} {B : Nat} {v : Value} {l : Cn} (h : w.ownsRow B T8 1 v l.length (cs8 l)) : BS w (fun j => (B ≤ j ∧ j < w.heap.size) ∧ Unf w j) v l := by
  rcases h.2 with ⟨e, h0⟩ | ⟨b, cap, cur, e, hb, hh, hc, hm, _⟩
  · have hl : l = [] := List.eq_nil_of_length_eq_zero h0
    subst hl
    rw [e]
    exact ⟨none, 0, rfl, ⟨Nat.le_refl _, Nat.zero_le _⟩, RF.nil _⟩
  · have hlt := (h.lt b (by rw [e]; rfl)).2
    refine ⟨some ⟨b, 0, none⟩, cap, e, ⟨hc, hm⟩, h.1, fun h0 => ?_⟩
    obtain ⟨ad, e2, _, hcell⟩ := (Reads.of_own (by rw [e] at h; exact h)).2 h0
    injection e2 with e2
    subst e2
    exact ⟨_, rfl, ⟨⟨hb, hlt⟩, _, _, hh⟩, hcell⟩
theorem RsG.slU {T : TypeId} {mk : Value → Array Value} {w1 wr : World} {g : Nat} {v : Value} {l : List It} (h : RsG ItU T mk w1 wr g v l) : SL ItR wr (fun j => w1.heap.size ≤ j ∧ Unf wr j) v l := by
  obtain ⟨xs, h1, h2⟩ := h.row
  have h3 := LR.mono (fun a cs (hx : ItU wr (FG w1 g v) a cs) => ItR.keep (F' := fun j => w1.heap.size ≤ j ∧ Unf wr j) (fun _ _ _ => rfl) (fun j hj _ => ⟨hj.1.1, hj.2⟩) a cs hx) _ _ h2
  rcases h1.2 with ⟨e, h0⟩ | ⟨b, cap, cur, e, hb, hh, hc, hm, _⟩
  · have hl : l = [] := List.eq_nil_of_length_eq_zero h0
    subst hl
    rw [e]
    exact SL.nil _ _
  · refine ⟨some ⟨b, 0, none⟩, cap, xs, e, ⟨hc, hm⟩, ⟨h1.1, fun h0 => ?_⟩, h3⟩
    obtain ⟨ad, e2, _, hcell⟩ := (Reads.of_own (by rw [e] at h1; exact h1)).2 h0
    injection e2 with e2
    subst e2
    exact ⟨_, rfl, ⟨hb, _, _, hh⟩, hcell⟩
set_option maxRecDepth 100000 in
set_option maxHeartbeats 2000000 in
theorem read_leaf_u {w : World} {F : Nat → Prop} {pb sb db n : Nat} {left : Int} {S : Int → Cn} {L : List (Int × Cn)} {N : Nat} {seq root frm : Int} {st : Cn} {tb : Nat} (h : Pg w F pb sb db n left S L N seq root frm st)
    (ht : Blk w tb TTr #[.pointer (some ⟨pb, 0, none⟩)]) (x : Int) (hx : pgB n x = true) (is : List It) (h0 : is ≠ []) (hok : ∀ i ∈ is, itOk i) (hsz : (ndB is []).length ≤ 505) (hc : nowC S L x = sealC 2 (ndB is [])) :
    Calls Try.prog 27 #[.pointer (some ⟨tb, 0, none⟩), .int .i64 x] w fun e w' =>
      (∃ g, e = .returned (.tuple #[.pointer (some ⟨g, 0, none⟩), .int .i64 0]) ∧ NdR w' (fun j => w.heap.size ≤ j ∧ Unf w' j) g is []) ∧ Pg w' F pb sb db n left S L N seq root frm st ∧ Fr (PF F pb sb) w w' := by
  have HP := hide h
  have HCC := hide hc
  have HOK := hide hok
  have kt := ht.cell; have ft := ht.frozen; have zt := ht.lt
  have hlen := ndB_len is []
  have HLEN := hide hlen
  clear h ht hc hok
  obtain ⟨i0, hi0, hz0, hz1, hz2⟩ := tit_inf
  have HI0 := hide hi0
  have HZ0 := hide hz0
  clear hi0 hz0
  go_enter Try.func27, Try.ntmps27
  go_upto_region 2 with (go_at_call 43; (refine (pread_ok HP.out x hx (ndB is []) hsz HCC.out).mono ?_); rintro e w1 ⟨⟨v, rfl, ho⟩, hp, hf⟩; have HO1 := hide ho; have HP1 := hide hp; have HF1 := hide hf; clear ho hp hf)
  clear kt ft zt
  obtain ⟨gb, cb, rfl, hcb, hgb, hrb⟩ := own_some (e := T8) HO1.out (by rw [hlen]; omega)
  have HRB := hide hrb
  obtain ⟨d, hd⟩ : ∃ d, ndB is [] = d := ⟨_, rfl⟩
  have HD := hide hd
  obtain ⟨m, hm⟩ : ∃ m, d.length = m := ⟨_, rfl⟩
  rw [hd, hm] at HRB hlen hcb hsz ⊢
  have hm1 : 1 ≤ m := by omega
  have HML := hide (show m = 1 + sumI is from by rw [hlen]; rfl)
  clear hrb HO1 hd hm hlen
  go_upto_region 5 with fail
  obtain ⟨w2, hw2⟩ : ∃ y, w1.alloc (.cells #[.slice none 0 0, .slice none 0 0] TNd) = y := ⟨_, rfl⟩
  obtain ⟨g, hg⟩ : ∃ g, w1.heap.size = g := ⟨_, rfl⟩
  have HS := hide (show RsG ItU TIt (fun v => #[v, .slice none 0 0]) w1 w2 g (.slice none 0 0) [] from
    ⟨hw2 ▸ al_below w1 _, hg ▸ hw2 ▸ Blk.new _ _ _, hg ▸ Nat.le_refl _, (fun e => by cases e), [], World.ownsRow_nil _ _ _ _, rfl⟩)
  have hg' : w.heap.size ≤ w1.heap.size := HF1.out.size
  rw [hg, hw2]
  clear hw2
  go_wp2_with fail
  go_loopw [9] (fun iv wr => ∃ (j p : Nat) (v : Value), iv = .int .i64 (p : Int) ∧ j ≤ is.length ∧ Hid (1 + sumI (is.take j) = p) ∧ Hid (RsG ItU TIt (fun v => #[v, .slice none 0 0]) w1 wr g v (is.take j))) (fun iv _ => m - (intOf iv).toNat)
  case atStart => exact ⟨0, 1, _, by go_num, by omega, hide rfl, HS⟩
  case round =>
    clear HS
    obtain ⟨j, p, v, rfl, hj, HP0, HS⟩ := hrel
    have HRr := hide ((HRB.out.below HS.out.bel).more HS.out.bel.size)
    have hpm : p ≤ m := by have := sumI_le is j; have := HP0.out; have := HML.out; omega
    by_cases hlt : j < is.length
    · have HKI := hide (HOK.out is[j] (List.getElem_mem hlt))
      have HDA := hide (show d.drop p = UInt8.ofNat is[j].k.length :: (is[j].k ++ (UInt8.ofNat is[j].v.length :: (is[j].v ++ (is.drop (j + 1)).flatMap itB))) from by
        rw [← HD.out, ← HP0.out, drop_at hlt]
        unfold itB
        rw [List.cons_append, List.append_assoc, List.cons_append])
      have HDV := hide (show d.drop (p + 1 + is[j].k.length) = UInt8.ofNat is[j].v.length :: (is[j].v ++ (is.drop (j + 1)).flatMap itB) from by rw [← HD.out, ← HP0.out, drop_val hlt])
      have HNX := hide (show 1 + sumI (is.take (j + 1)) = p + 1 + is[j].k.length + 1 + is[j].v.length from by rw [sumI_take hlt, ← HP0.out]; unfold szI; omega)
      have hpl : p < m := by
        have := sumI_take hlt
        have := sumI_le is (j + 1)
        have := HP0.out
        have := HML.out
        unfold szI at *
        omega
      have HTK := hide (List.take_succ_eq_append_getElem hlt)
      obtain ⟨y, hy⟩ : ∃ y, is[j] = y := ⟨_, rfl⟩
      rw [hy] at HKI HDA HDV HNX HTK
      clear hy
      obtain ⟨kl, hkl⟩ : ∃ kl, y.k.length = kl := ⟨_, rfl⟩
      have hk1 : 1 ≤ kl := hkl ▸ HKI.out.1
      have hk2 : kl ≤ 32 := hkl ▸ HKI.out.2.1
      have HKL := hide hkl
      clear hkl
      have kz : ((kl : Int) == 0) = false := by simp; omega
      go_upto_region 8 with (go_at_call 44; (refine (part_ok HRr.out hcb (by omega) HDA.out (by rw [HKL.out]; omega)).mono ?_); (rw [HKL.out]); rintro e w3 ⟨vk, rfl, ho, hb⟩; have HOK3 := hide ho; have HB3 := hide hb; clear ho hb)
      obtain ⟨Ak, ck, rfl, hck⟩ := own_slice HOK3.out
      have hd0 : ∃ t, d = 0 :: t := ⟨_, by rw [← HD.out]; unfold ndB; rw [if_pos rfl]⟩
      obtain ⟨t0, hd0⟩ := hd0
      have HR3 := hide ((HRr.out.below HB3.out).more HB3.out.size)
      have kb := RB.head HR3.out hd0
      have zb : gb < w3.heap.size := by
        obtain ⟨ad, e, hb, _⟩ := RB.at_ HR3.out (k := 0) (by omega) (by have := RB.len HR3.out; omega)
        injection e with e
        subst e
        exact hb
      clear hd0
      go_upto_region 16 with fail
      clear kb zb kz
      obtain ⟨vl, hvl⟩ : ∃ vl, y.v.length = vl := ⟨_, rfl⟩
      have hv1 : vl ≤ 128 := hvl ▸ HKI.out.2.2
      have HVL := hide hvl
      rw [hvl] at HNX
      rw [HKL.out] at HDV HNX
      clear hvl
      go_upto_region 17 with (go_at_call 44; (refine (part_at (at_ := p + 1 + kl) (by simp) HR3.out hcb (by omega) HDV.out (by rw [HVL.out]; omega)).mono ?_); (rw [HVL.out]); rintro e w4 ⟨vv, rfl, ho, hb⟩; have HOV4 := hide ho; have HB4 := hide hb; clear ho hb)
      obtain ⟨Av, cv, rfl, hcv⟩ := own_slice HOV4.out
      have hbb : Below wr.heap.size wr w4 := HB3.out.trans (HB4.out.mono HB3.out.size)
      have HBB := hide hbb
      have HS4 := hide (HS.out.below @ItU.keep hbb)
      have kg := HS4.out.blk.cell; have fg := HS4.out.blk.frozen; have zg := HS4.out.blk.lt
      clear hbb
      obtain ⟨xs, hxo, hxl⟩ := HS.out.row
      have HXO := hide hxo
      have HXL := hide hxl
      have htl : (is.take j).length = j := by rw [List.length_take]; omega
      rw [htl] at HXO
      have HTL := hide htl
      clear hxo hxl htl
      have hj6 : j ≤ 600 := by
        have := len_sumI is
        have := HML.out
        omega
      have HA4 := hide (show ItU (w4.alloc (.cells #[.slice Ak kl ck, .slice Av vl cv] TIt)) (fun j => wr.heap.size ≤ j ∧ j < (w4.alloc (.cells #[.slice Ak kl ck, .slice Av vl cv] TIt)).heap.size) y [.slice Ak kl ck, .slice Av vl cv] from by
        have hs3 := HB3.out.size
        have hs4 := HB4.out.size
        refine ⟨_, _, rfl, ?_, ?_⟩
        · have := BS.of_ownU (l := y.k) (by rw [HKL.out]; exact HOK3.out)
          exact this.keep (fun j hj hlt => ((al_below w4 _).block j (Nat.lt_of_lt_of_le hlt hs4)).trans (HB4.out.block j hlt)) (fun j hj hlt => ⟨⟨hj.1.1, by simp; omega⟩, hj.2.of (((al_below w4 _).block j (Nat.lt_of_lt_of_le hlt hs4)).trans (HB4.out.block j hlt))⟩)
        · have := BS.of_ownU (l := y.v) (by rw [HVL.out]; exact HOV4.out)
          exact this.keep (fun j hj hlt => (al_below w4 _).block j hlt) (fun j hj hlt => ⟨⟨by omega, by simp; omega⟩, hj.2.of ((al_below w4 _).block j hlt)⟩))
      have HBA := hide (show Below wr.heap.size wr (w4.alloc (.cells #[.slice Ak kl ck, .slice Av vl cv] TIt)) from HBB.out.alloc HBB.out.size _)
      go_upto_region 20 with (at_builtin; refine wpList_append_any _ rfl (.tmp 88) (.tmp 92) _ rfl w1.heap.size TIt i0 _ 2 48 Try.underlying32 HI0.out HZ0.out hz1 hz2 rfl (by omega) v j xs rfl (own_later HXO.out HBA.out) _ (some ⟨w4.heap.size, 0, none⟩) 1 1 [.slice Ak kl ck, .slice Av vl cv] rfl (reads_blk (Blk.new w4 TIt _) rfl rfl) (by intro u hu; simp at hu; rcases hu with rfl | rfl <;> rfl) (by unfold maxLen; omega) (by omega) (Nat.le_trans HS.out.bel.size HBA.out.size) ?_; intro v' w5 ho hgb hoo; (obtain ⟨A5, c5, rfl, hc5⟩ := own_slice ho); have HO5 := hide ho; have HG5 := hide hgb; have HOO5 := hide hoo; have HB5 := hide (((HS.out.blk.below HBA.out HS.out.blk.lt).grown hgb (fun e => HS.out.ng e.symm))); clear ho hgb hoo kg fg zg; have kg := HB5.out.cell; have fg := HB5.out.frozen; have zg := HB5.out.lt)
      obtain ⟨w6, hw6⟩ : ∃ y, w5.setCell ⟨g, 0, none⟩ (.slice A5 (j + 1) c5) = y := ⟨_, rfl⟩
      have HS6 := hide (show RsG ItU TIt (fun v => #[v, .slice none 0 0]) w1 w6 g (.slice A5 (j + 1) c5) (is.take j ++ [y]) from
        RsG.push @ItU.keep HS.out HBA.out (xs := xs) ⟨by rw [HTL.out]; exact HXO.out, HXL.out⟩ HA4.out (by rw [HTL.out]; exact HO5.out) HG5.out HOO5.out (fun h => hw6 ▸ h.setCell (p := ⟨g, 0, none⟩) HS.out.ge _) (fun i hi => hw6 ▸ Below.heap_setCell _ _ _ _ hi) (fun h => hw6 ▸ h.set_ 0 _))
      rw [← HTK.out] at HS6
      rw [hw6]
      clear hw6 kg fg zg HS HS4 HB5 HO5 HG5 HOO5 HA4 HBA HXO HXL HBB
      go_wp2_with fail
      go_roundw
      case rel => exact ⟨j + 1, p + 1 + kl + 1 + vl, _, by go_num, by omega, HNX, HS6⟩
      case measure => simp [intOf]; have := HNX.out; have := sumI_le is (j + 1); have := HML.out; omega
    · obtain rfl : j = is.length := by omega
      have HTI := hide (show is.take is.length = is from List.take_length)
      rw [HTI.out] at HS HP0
      obtain rfl : p = m := by have := HP0.out; have := HML.out; omega
      obtain ⟨xs, hxo, hxl⟩ := HS.out.row
      obtain ⟨Ai, ci, rfl, hci⟩ := own_slice hxo
      have hl1 : 0 < is.length := List.length_pos_iff.2 h0
      obtain ⟨q, hq⟩ : ∃ q, is.length = q := ⟨_, rfl⟩
      have kg := HS.out.blk.cell; have fg := HS.out.blk.frozen; have zg := HS.out.blk.lt
      have HSL := hide (HS.out.slU)
      rw [hq] at kg hl1 hci ⊢
      have HQ := hide hq
      have hq6 : q ≤ 600 := by
        have := len_sumI is
        have := HML.out
        omega
      have d5 : (wrap64 (q : Int) == 0) = false := w64_pos hl1 hq6
      clear hxo hxl hq
      go_upto_region 21 with fail
      go_quiet (fail)
      obtain ⟨w9, hw9⟩ : ∃ y, wr.drewN nq = y := ⟨_, rfl⟩
      have HB9 := hide (show Below wr.heap.size wr w9 from hw9 ▸ below_drewN (Below.refl _ _) nq)
      rw [hw9]
      clear hw9 kg fg zg
      go_wp2_with fail
      have hbw : Below w1.heap.size w1 w9 := HS.out.bel.trans (HB9.out.mono HS.out.bel.size)
      refine bodyPost_ret (v := .tuple #[.pointer (some ⟨g, 0, none⟩), .int .i64 0]) (by simp (maxDischargeDepth := 9) [results, Try.results27, go_sem]; done) rfl ⟨⟨g, rfl, ?_⟩, HP1.out.below hbw, HF1.out.trans (Fr.low hbw) (fun _ _ h => h)⟩
      have hgU : Unf w9 g := ⟨_, _, HS.out.blk.below HB9.out HS.out.blk.lt⟩
      refine ⟨.slice Ai q ci, .slice none 0 0, ?_, ⟨Nat.le_trans hg' (hg ▸ HS.out.ge), hgU⟩, ?_, SL.nil _ _⟩
      · have := HS.out.blk.below HB9.out HS.out.blk.lt
        rwa [HQ.out] at this
      · have := HSL.out.keep @ItR.keep (F' := fun j => w.heap.size ≤ j ∧ Unf w9 j) (fun j _ hj => HB9.out.block j hj) (fun j hj hlt => ⟨Nat.le_trans hg' hj.1, hj.2.of (HB9.out.block j hlt)⟩)
        rwa [HQ.out] at this
/-- What Get answers. -/
def GotU (w0 w' : World) (e : Ending) : Option Cn → Prop
  | some v => ∃ x, e = .returned (.tuple #[x, .int .i64 0]) ∧ BS w' (fun j => w0.heap.size ≤ j ∧ Unf w' j) x v
  | none => e = .returned (.tuple #[.slice none 0 0, .int .i64 5])
set_option maxRecDepth 100000 in
set_option maxHeartbeats 4000000 in
theorem tget_u {w : World} {F : Nat → Prop} {pb sb db n : Nat} {left : Int} {S : Int → Cn} {L : List (Int × Cn)} {N : Nat} {seq root frm : Int} {st : Cn} {tb : Nat} {vk : Value} {key : Cn} {p H : Nat} {is : List It}
    (h : Pg w F pb sb db n left S L N seq root frm st) (ht : Blk w tb TTr #[.pointer (some ⟨pb, 0, none⟩)]) (htb : ¬ PF F pb sb tb) (hk : BS w (fun j => ¬ PF F pb sb j) vk key)
    (hT : TrP (nowC S L) n H p is) (hH : H ≤ 32) (hr : Rise (is.map It.k)) :
    Calls Try.prog 12 #[.pointer (some ⟨tb, 0, none⟩), .int .i64 (p : Int), vk] w fun e w' => GotU w w' e (valOf is key) ∧ Pg w' F pb sb db n left S L N seq root frm st ∧ Fr (PF F pb sb) w w' := by
  have HP := hide h
  have HT := hide ht
  have HTB := hide htb
  have HK := hide hk
  have HTr := hide hT
  have HR := hide hr
  have HF := hide (Fr.refl (PF F pb sb) w)
  clear h ht htb hk hT hr
  go_enter Try.func12, Try.ntmps12
  go_upto_region 2 with (go_at_call 23; (refine (talive_ok HT.out).mono ?_); rintro e w2 ⟨rfl, e2⟩; rw [e2]; clear e2)
  go_wp2_with fail
  go_loopw [1, 18] (fun bx iv wr => ∃ (c p' H' : Nat) (is' : List It), bx = .int .i64 (p' : Int) ∧ iv = .int .i64 (c : Int) ∧ c + H' ≤ 32 ∧ Hid (TrP (nowC S L) n H' p' is') ∧ Hid (Rise (is'.map It.k)) ∧ Hid (valOf is key = valOf is' key) ∧ Hid (Pg wr F pb sb db n left S L N seq root frm st) ∧ Hid (Fr (PF F pb sb) w wr)) (fun _ iv _ => 32 - (intOf iv).toNat)
  case atStart => exact ⟨0, p, H, is, rfl, by go_num, by omega, HTr, HR, hide rfl, HP, HF⟩
  case round =>
    clear HP HTr HR HF
    obtain ⟨c, p', H', is', rfl, rfl, hc, HTr, HR, HV, HP, HF⟩ := hrel
    cases H' with
    | zero => exact HTr.out.elim
    | succ H' =>
      have hc32 : c < 32 := by omega
      have HTW := hide (show Blk wr tb TTr #[.pointer (some ⟨pb, 0, none⟩)] from (HF.out.block tb HT.out.lt HTB.out).trans HT.out)
      have HKW := hide (show BS wr (fun j => ¬ PF F pb sb j) vk key from HK.out.keep (fun j hj hlt => HF.out.block j hlt hj) (fun j hj _ => hj))
      obtain ⟨hpg, hcase⟩ := HTr.out
      have hp1 : 1 ≤ p' := by
        unfold pgB at hpg
        simp at hpg
        omega
      have HPG := hide hpg
      clear hpg
      rcases hcase with ⟨a1, a2, a3, a4⟩ | ⟨ks, a1, a2, a3, a4, a5, a6⟩
      · have A := hide (And.intro a1 (And.intro a2 (And.intro a3 a4)))
        clear a1 a2 a3 a4
        go_upto_region 8 with (go_at_call 27; (refine (read_leaf_u HP.out HTW.out (p' : Int) HPG.out is' A.out.1 A.out.2.1 A.out.2.2.1 A.out.2.2.2).mono ?_); rintro e w2 ⟨⟨g, rfl, hnd⟩, hp2, hf2⟩; have HN2 := hide hnd; have HP2 := hide hp2; have HF2 := hide hf2; clear hnd hp2 hf2)
        have hl : is'.length ≤ 100000 := by
          have h1 := A.out.2.2.1
          rw [ndB_len] at h1
          have := len_sumI is'
          omega
        have HN3 := hide (HN2.out.keep (F' := fun j => j < w2.heap.size) (fun _ _ _ => rfl) (fun _ _ hl => hl))
        obtain ⟨vi, vks, hb, hgF, h1, h2⟩ := HN2.out
        obtain ⟨vi', vks', hb', _, h1', _⟩ := HN3.out
        obtain ⟨rfl, rfl⟩ : vi = vi' ∧ vks = vks' := by
          have := hb.symm.trans hb'
          injection this with this
          injection this with this _ _
          simpa using this
        clear hb' h2
        have HB2 := hide hb
        have HS2 := hide h1'
        have HS2' := hide h1
        have HKW2 := hide (show BS w2 (fun j => ¬ PF F pb sb j) vk key from HKW.out.keep (fun j hj hlt => HF2.out.block j hlt hj) (fun j hj _ => hj))
        have kg := hb.cell; have fg := hb.frozen; have zg := hb.lt
        clear hb h1 h1'
        go_upto_region 12 with (go_at_call 28; (refine (leaf_yes HN3.out).mono ?_); rintro e w3 ⟨rfl, e3⟩; rw [e3]; clear e3)
        go_upto_region 13 with (go_at_call 30; (refine (search_items HS2.out HKW2.out.all hl).mono ?_); rintro e w3 ⟨k, f, rfl, hfa, hb3⟩; have HFA := hide hfa; have HB3 := hide hb3; clear hfa hb3 kg fg zg)
        have HBb := hide (HB2.out.below HB3.out HB2.out.lt)
        have kg := HBb.out.cell; have fg := HBb.out.frozen; have zg := HBb.out.lt
        have HFo := hide (valOf_found HR.out HFA.out)
        cases f with
        | true =>
          obtain ⟨hk, hval⟩ := HFo.out.1 rfl
          have HVal := hide hval
          have HS9 := HS2'.out.keep @ItR.keep (F' := fun j => (wr.heap.size ≤ j ∧ Unf w2 j) ∧ j < w2.heap.size) (fun _ _ _ => rfl) (fun j hj hl => ⟨hj, hl⟩)
          obtain ⟨Ai, ci, xs, rfl, hci, hri, hli⟩ := HS9
          obtain ⟨ad, hA, had, hcell⟩ := hri.2 (by omega)
          subst hA
          obtain ⟨cs, hit, hcs⟩ := LR.at_ (k := 2) (fun a cs h => h.two) is' xs hli k hk
          obtain ⟨a0, a1, rfl, _, hv⟩ := hit
          have HBV := hide (show BS w3 (fun j => w.heap.size ≤ j ∧ Unf w3 j) a1 is'[k].v from hv.keep (fun j hj hlt => HB3.out.block j hlt) (fun j hj hlt => ⟨Nat.le_trans HF.out.size hj.1.1, hj.1.2.of (HB3.out.block j hlt)⟩))
          have k1 := (HB3.out.cell (p := ad.add (k * 2 + 1)) (by rw [block_of_add]; exact had.2)).trans (hcell (k * 2 + 1) _ (hcs 1 (by omega)))
          have zz0 : ad.block < w3.heap.size := Nat.lt_of_lt_of_le had.2 HB3.out.size
          have hs1 := spot_none k1
          have k2 : w3.cell? ⟨(ad.add (k * 2)).block, (ad.add (k * 2)).off + 1, none⟩ = some a1 := by
            have hs0 : (ad.add (k * 2)).spot = none := by
              have := hcell (k * 2 + 0) _ (hcs 0 (by omega))
              exact spot_none (by simpa using this)
            rw [add_plain _ 1 hs0, add_of_add]
            exact k1
          have hjc : k < ci := by omega
          obtain ⟨yv, hyv⟩ : ∃ yv, is'[k].v = yv := ⟨_, rfl⟩
          rw [hyv] at HBV HVal
          clear hri hli hcs hcell hv k1 hs1 hval hyv
          obtain ⟨m, hm⟩ : ∃ m, is'.length = m := ⟨_, rfl⟩
          rw [hm] at hk hci kg
          clear hm
          go_wp2_with fail
          refine bodyPost_ret (v := .tuple #[a1, .int .i64 0]) (by simp (maxDischargeDepth := 9) [results, Try.results12, go_sem]; done) rfl ⟨?_, HP2.out.below HB3.out, (HF.out.trans HF2.out (fun _ _ h => h)).trans (Fr.low HB3.out) (fun _ _ h => h)⟩
          rw [HV.out, HVal.out]
          exact ⟨a1, rfl, HBV.out⟩
        | false =>
          have HVN := hide (HFo.out.2 rfl)
          go_wp2_with fail
          refine bodyPost_ret (v := .tuple #[.slice none 0 0, .int .i64 5]) (by simp (maxDischargeDepth := 9) [results, Try.results12, go_sem]; done) rfl ⟨?_, HP2.out.below HB3.out, (HF.out.trans HF2.out (fun _ _ h => h)).trans (Fr.low HB3.out) (fun _ _ h => h)⟩
          rw [HV.out, HVN.out]
          rfl
      · obtain ⟨km, hkm⟩ : ∃ km, ks.map Prod.fst = km := ⟨_, rfl⟩
        have HKM := hide hkm
        rw [hkm] at a3 a4
        have hk0 : km ≠ [] := by rw [← hkm]; simpa using a1
        have hkd : ∀ i ∈ km, kdOk i := by
          intro i hi
          rw [← hkm] at hi
          obtain ⟨x, hx, rfl⟩ := List.mem_map.1 hi
          exact a2 x hx
        have A := hide (And.intro hk0 (And.intro hkd (And.intro a3 a4)))
        have HE := hide a5
        have HKids := hide a6
        have hlk : 0 < km.length := List.length_pos_iff.2 hk0
        clear a1 a2 a3 a4 a5 a6 hk0 hkd hkm
        go_upto_region 8 with (go_at_call 27; (refine (read_inner HP.out HTW.out (p' : Int) HPG.out km A.out.1 A.out.2.1 A.out.2.2.1 A.out.2.2.2).mono ?_); rintro e w2 ⟨⟨g, rfl, hnd⟩, hp2, hf2⟩; have HN2 := hide hnd; have HP2 := hide hp2; have HF2 := hide hf2; clear hnd hp2 hf2)
        have hl : km.length ≤ 100000 := by
          have h1 := A.out.2.2.1
          rw [ndB_len] at h1
          have := len_sumK km
          omega
        have HN3 := hide (HN2.out.keep (F' := fun j => j < w2.heap.size) (fun _ _ _ => rfl) (fun _ _ hl => hl))
        obtain ⟨vi, vks, hb, _, _, h2⟩ := HN3.out
        obtain ⟨Ai, ci, xs, rfl, hci, hri, hli⟩ := h2
        obtain ⟨ad, hA, had, hcell⟩ := hri.2 (by omega)
        subst hA
        have HC := hide (show ∀ k, k < km.length → w2.cell? ⟨(ad.add (k * 2)).block, (ad.add (k * 2)).off + 1, none⟩ = some (.int .i64 (((km.map Kd.p).getD k 0 : Nat) : Int)) from fun k hk => by
          obtain ⟨cs, hit, hcs⟩ := LR.at_ (k := 2) (fun a cs h => h.two) km xs hli k hk
          obtain ⟨a0, rfl, _⟩ := hit
          have q0 := hcell (k * 2 + 0) _ (hcs 0 (by omega))
          have q1 := hcell (k * 2 + 1) _ (hcs 1 (by omega))
          rw [(two_cells (by simpa using q0) q1).2]
          simp [List.getD, hk])
        have HSP := hide (show ∀ k, k < km.length → (ad.add (k * 2)).spot = none from fun k hk => by
          obtain ⟨cs, hit, hcs⟩ := LR.at_ (k := 2) (fun a cs h => h.two) km xs hli k hk
          obtain ⟨a0, rfl, _⟩ := hit
          have q0 := hcell (k * 2 + 0) _ (hcs 0 (by omega))
          exact spot_none (by simpa using q0))
        have HBd := hide hb
        have HKW2 := hide (show BS w2 (fun j => ¬ PF F pb sb j) vk key from HKW.out.keep (fun j hj hlt => HF2.out.block j hlt hj) (fun j hj _ => hj))
        clear hb hri hli hcell
        go_upto_region 11 with (go_at_call 28; (refine (leaf_no HN3.out A.out.1).mono ?_); rintro e w3 ⟨rfl, e3⟩; rw [e3]; clear e3)
        obtain ⟨M, hM⟩ : ∃ M, km.length = M := ⟨_, rfl⟩
        have HM := hide hM
        rw [hM] at hci hlk hl HBd
        clear hM
        refine wp_region_facts (by kernel_rfl) (by kernel_rfl) 63
          [⟨34, fun v _ => v = .pointer (some ⟨g, 0, none⟩)⟩,
           ⟨35, fun v _ => v = .pointer (some ⟨g, 0, none⟩)⟩,
           ⟨36, fun v _ => v = .pointer (some ⟨g, 1, none⟩)⟩,
           ⟨37, fun v _ => v = .slice (some ad) M ci⟩,
           ⟨38, fun v _ => v = .pointer (some ⟨g, 0, none⟩)⟩,
           ⟨39, fun v _ => v = vk⟩,
           ⟨40, fun v _ => ∃ k : Nat, v = .int .i64 (k : Int) ∧ DownAt (km.map Kd.k) key k⟩,
           ⟨41, fun v _ => ∃ k : Nat, v = .pointer (some (ad.add (k * 2))) ∧ DownAt (km.map Kd.k) key k⟩,
           ⟨42, fun v _ => ∃ k : Nat, v = .pointer (some ⟨(ad.add (k * 2)).block, (ad.add (k * 2)).off + 1, none⟩) ∧ DownAt (km.map Kd.k) key k⟩,
           ⟨43, fun v _ => ∃ k : Nat, v = .int .i64 (((km.map Kd.p).getD k 0 : Nat) : Int) ∧ DownAt (km.map Kd.k) key k⟩,
           ⟨1, fun v _ => ∃ k : Nat, v = .int .i64 (((km.map Kd.p).getD k 0 : Nat) : Int) ∧ DownAt (km.map Kd.k) key k⟩] (by kernel_rfl) rfl rfl ?_ ?_ ?_
        · intro e he v w w' _ hb hv
          simp only [List.mem_cons, List.not_mem_nil, or_false] at he
          rcases he with rfl | rfl | rfl | rfl | rfl | rfl | rfl | rfl | rfl | rfl | rfl
          all_goals first | exact hv
        · refine ⟨?_, ?_, ?_, ?_, ?_, ?_, ?_, ?_, ?_, ?_, ?_, trivial⟩
          · intro ac w3 hg hd K hK
            exact op_move _ rfl (hK _ _ (Below.refl _ _) (hg.kp 9 (by simp)))
          · intro ac w3 hg hd K hK
            have f0 := hd ⟨0, .data⟩ (by simp) rfl _ rfl
            (try simp [Act.eval] at f0)
            go_simp
            exact hK _ _ (Below.refl _ _) rfl
          · intro ac w3 hg hd K hK
            have f1 := hd ⟨1, .data⟩ (by simp) rfl _ rfl
            (try simp [Act.eval] at f1)
            go_simp
            exact hK _ _ (Below.refl _ _) rfl
          · intro ac w3 hg hd K hK
            have HBw := HBd.out.below hg.hb HBd.out.lt
            have kk := HBw.cell 1
            have zz := HBw.lt
            simp at kk
            have f2 := hd ⟨2, .data⟩ (by simp) rfl _ rfl
            (try simp [Act.eval] at f2)
            go_simp
            exact hK _ _ (Below.refl _ _) rfl
          · intro ac w3 hg hd K hK
            exact op_move _ rfl (hK _ _ (Below.refl _ _) (hg.kp 9 (by simp)))
          · intro ac w3 hg hd K hK
            exact op_move _ rfl (hK _ _ (Below.refl _ _) (hg.kp 2 (by simp)))
          · intro ac w3 hg hd K hK
            have f4 := hd ⟨4, .data⟩ (by simp) rfl _ rfl
            have f5 := hd ⟨5, .data⟩ (by simp) rfl _ rfl
            simp [Act.eval] at f4 f5
            go_simp
            refine (ndown_any (HN3.out.keep (F' := fun j => j < w3.heap.size) (fun j hj _ => hg.hb.block j hj) (fun j hj _ => Nat.lt_of_lt_of_le hj hg.hb.size)) (HKW2.out.all.later hg.hb) (by rw [HM.out]; exact hl)).mono ?_
            rintro e w4 ⟨k, rfl, hdn, hbb⟩
            exact hK _ _ hbb ⟨k, rfl, hdn⟩
          · intro ac w3 hg hd K hK
            have f3 := hd ⟨3, .data⟩ (by simp) rfl _ rfl
            obtain ⟨k, f6, hdn⟩ := hd ⟨6, .data⟩ (by simp) rfl _ rfl
            have hkl := hdn.lt (by rw [List.length_map, HM.out]; exact hlk)
            rw [List.length_map, HM.out] at hkl
            have hkc : k < ci := by omega
            simp [Act.eval] at f3 f6
            go_simp
            exact hK _ _ (Below.refl _ _) ⟨k, rfl, hdn⟩
          · intro ac w3 hg hd K hK
            obtain ⟨k, f7, hdn⟩ := hd ⟨7, .data⟩ (by simp) rfl _ rfl
            have hs0 := HSP.out k (by have := hdn.lt (by rw [List.length_map, HM.out]; exact hlk); rwa [List.length_map] at this)
            simp [Act.eval] at f7
            go_simp
            exact hK _ _ (Below.refl _ _) ⟨k, rfl, hdn⟩
          · intro ac w3 hg hd K hK
            obtain ⟨k, f8, hdn⟩ := hd ⟨8, .data⟩ (by simp) rfl _ rfl
            have hkl := hdn.lt (by rw [List.length_map, HM.out]; exact hlk)
            rw [List.length_map] at hkl
            have kk := (hg.hb.cell (p := ⟨(ad.add (k * 2)).block, (ad.add (k * 2)).off + 1, none⟩) (show (ad.add (k * 2)).block < w2.heap.size by rw [block_of_add]; exact had)).trans (HC.out k hkl)
            have zz : ad.block < w3.heap.size := Nat.lt_of_lt_of_le had hg.hb.size
            simp [Act.eval] at f8
            go_simp
            exact hK _ _ (Below.refl _ _) ⟨k, by first | rfl | simp [List.getD, hkl], hdn⟩
          · intro ac w3 hg hd K hK
            exact op_assign _ rfl (hK _ _ (Below.refl _ _) (hd ⟨9, .data⟩ (by simp) rfl _ rfl))
        · intro f w5 hb5 hall
          obtain ⟨k, h1, hdn⟩ := hall ⟨1, fun v _ => ∃ k : Nat, v = .int .i64 (((km.map Kd.p).getD k 0 : Nat) : Int) ∧ DownAt (km.map Kd.k) key k⟩ (by simp)
          simp only [fillF, List.map_cons, List.map_nil, List.foldl_cons, List.foldl_nil, Act.put, List.setIfInBounds_toArray, List.set_cons_zero, List.set_cons_succ]
          rw [h1]
          clear h1 hall
          have HB5 := hide hb5
          clear hb5
          have hkl := hdn.lt (by rw [List.length_map, HM.out]; exact hlk)
          have hks : k < ks.length := by rw [← HKM.out] at hkl; simpa using hkl
          have hrise := HR.out
          rw [HE.out] at hrise
          have hds := descend hrise (fun x hx => (HKids.out x hx).2) (key := key) (k := k) (by rw [HKM.out]; exact hdn) hks
          obtain ⟨pq, hpq⟩ : ∃ pq, (km.map Kd.p).getD k 0 = pq := ⟨_, rfl⟩
          have hpk : ks[k].1.p = pq := by rw [← hpq, ← HKM.out]; simp [List.getD, hks]
          have HT9 := hide (show TrP (nowC S L) n H' pq ks[k].2 from hpk ▸ (HKids.out ks[k] (List.getElem_mem hks)).1)
          have HR9 := hide hds.2
          have HV9 := hide (show valOf is key = valOf ks[k].2 key from by rw [HV.out, HE.out]; exact hds.1)
          have HP9 := hide (HP2.out.below HB5.out)
          have HF9 := hide ((HF.out.trans HF2.out (fun _ _ h => h)).trans (Fr.low HB5.out) (fun _ _ h => h))
          rw [hpq]
          clear hpq hpk hds hrise hdn hkl
          obtain ⟨is9, his9⟩ : ∃ is9, ks[k].2 = is9 := ⟨_, rfl⟩
          rw [his9] at HT9 HR9 HV9
          clear his9 hks
          go_wp2_with fail
          go_roundw
          · exact ⟨c + 1, pq, H', is9, rfl, by go_num, by omega, HT9, HR9, HV9, HP9, HF9⟩
          · simp [intOf]
            omega
end Go.Proofs.Ytkolacaceaamoaa
/- TreeNil. -/
namespace Go.Proofs.Ytkolacaceaamoaa
set_option linter.unusedSimpArgs false
set_option linter.unusedVariables false
open Go.RowKit
theorem wpList_append_lit {P : Program} {ops : Array Oper} {rest : List Oper} (w : World) {o : Oper} {a : Act} {Q : Exit → Act → World → Prop} (hgd : o.guard = none) (s x : Operand) (t : TypeId)
    (ho : o.op = .call { callee := .builtin .append, args := #[s, x], argTypes := #[t, t] })
    (e : TypeId) (i : TypeInfo) (z : Value) (size bytes : Nat) (ht : P.underlying t = some (.slice e)) (hi : P.info? e = some i) (hz : i.zero = some z)
    (hsize : i.size = size) (hby : i.bytes = bytes) (hzs : z.cells.size = size) (hsz : 0 < size)
    (g : Addr) (hs : a.eval s = .slice (some g) 0 0) (A : Option Addr) (m c : Nat) (news : List Value) (hx : a.eval x = .slice A m c) (hr : Reads w w.heap.size size A m news) (h1 : ∀ u ∈ news, u.oneCell' = true)
    (h63 : m ≤ maxLen) (hbytes : m * bytes ≤ 140737488355328)
    (h : ∀ v' w', ((m = 0 ∧ v' = .slice (some g) 0 0) ∨ w'.ownsRow w.heap.size e size v' m news) → Below w.heap.size w w' → wpList P ops Q rest (a.put o.dst v') w') : wpList P ops Q (o :: rest) a w :=
  wpList_plain hgd fun _ hK => wp_append_lit w s x t ho e i z size bytes ht hi hz hsize hby hzs hsz g hs A m c news hx hr h1 h63 hbytes fun v' w' h2 h3 => hK _ _ (h v' w' h2 h3)
theorem chOf_mem : ∀ {l : List Ch} {c : Ch}, RiseC l → c ∈ l → chOf l c.k = some c
  | d :: t, c, hr, hm => by
    have hr' := List.pairwise_cons.1 hr
    rw [chOf_cons]
    rcases List.mem_cons.1 hm with rfl | hm
    · rw [if_pos rfl]
    · have := hr'.1 c hm
      rw [if_neg (fun e => by rw [e, cb_zero.2 rfl] at this; omega)]
      exact chOf_mem hr'.2 hm
theorem put_found {put : List It} {l : List Ch} (hp : l.Perm (chs put [])) (hr : RiseC l) {i : Nat} (hi : i < put.length) : valOf (mergeC [] l) put[i].k = some put[i].v := by
  have hm : (⟨put[i].k, put[i].v, false⟩ : Ch) ∈ l := hp.mem_iff.2 (by
    unfold chs
    rw [List.map_nil, List.append_nil]
    exact List.mem_map.2 ⟨put[i], List.getElem_mem hi, rfl⟩)
  rw [(mergeC_law [] l List.Pairwise.nil hr).2]
  unfold askC
  rw [chOf_mem hr hm]
  rfl
theorem put_some {put : List It} {l : List Ch} (hp : l.Perm (chs put [])) (h : mergeC [] l = []) : put = [] := by
  cases put with
  | nil => rfl
  | cons x p =>
    exfalso
    have hm : (⟨x.k, x.v, false⟩ : Ch) ∈ l := hp.mem_iff.2 (by unfold chs; simp)
    have : (⟨x.k, x.v⟩ : It) ∈ mergeC [] l := by
      rw [mergeC_nil]
      exact List.mem_flatMap.2 ⟨_, hm, by simp [Ch.item]⟩
    rw [h] at this
    cases this
/-- The tree's memory, from round to round. -/
structure NlS (w : World) (c : Pct) (tb : Nat) (m3 : Pst) (wr : World) : Prop where
  pg : PgS wr c m3
  tr : Blk wr tb TTr #[.pointer (some ⟨c.pb, 0, none⟩)]
  nt : ¬ PF m3.F c.pb c.sb tb
  pl : ∀ j, PF m3.F c.pb c.sb j → w.heap.size ≤ j
  tl : w.heap.size ≤ tb
  bel : Below w.heap.size w wr
section
variable {w wr w' : World} {c : Pct} {tb : Nat} {m3 : Pst}
theorem NlS.below (h : NlS w c tb m3 wr) (hb : Below wr.heap.size wr w') : NlS w c tb m3 w' := ⟨Pg.below h.pg hb, h.tr.below hb h.tr.lt, h.nt, h.pl, h.tl, h.bel.trans (hb.mono h.bel.size)⟩
theorem NlS.got (h : NlS w c tb m3 wr) (hp : PgS w' c m3) (hf : Fr (PF m3.F c.pb c.sb) wr w') : NlS w c tb m3 w' := ⟨hp, hf.blk h.tr h.nt, h.nt, h.pl, h.tl, h.bel.trans (hf.below h.bel.size h.pl)⟩
theorem NlS.set_ (h : NlS w c tb m3 wr) {p : Addr} (v : Value) (h1 : w.heap.size ≤ p.block) (h2 : ¬ PF m3.F c.pb c.sb p.block) (h3 : p.block ≠ tb) : NlS w c tb m3 (wr.setCell p v) := by
  have hf : Fr (fun j => j = p.block) wr (wr.setCell p v) := ⟨rfl, rfl, rfl, by simp, fun j hj hn => Below.heap_setCell _ _ _ _ hn⟩
  exact ⟨Pg.keepF h.pg hf (fun j hj e => h2 (e ▸ hj)), hf.blk h.tr (fun e => h3 e.symm), h.nt, h.pl, h.tl, h.bel.setCell h1 v⟩
end
/-- What Put of the items answered. -/
def NilI (w : World) (c : Pct) (tb : Nat) (put : List It) (w4 : World) (r ev : Int) : Prop :=
  Below w.heap.size w w4 ∧ (ev = 0 → put = [] ∨ ∃ (x : KI) (m3 : Pst) (h : Nat), r = (x.1.p : Int) ∧ NlS w c tb m3 w4 ∧ KidT c m3 h x ∧ h ≤ 32 ∧ RiseI x.2 ∧ ∀ (i : Nat) (hi : i < put.length), valOf x.2 put[i].k = some put[i].v)
/-- Bytes that are written over. -/
def OwnB (w : World) (x8 : Value) (n : Nat) (B : Nat) : Prop := ∃ A cc, x8 = .slice A n cc ∧ n ≤ cc ∧ (0 < n → ∃ b o, A = some ⟨b, o, none⟩ ∧ B ≤ b ∧ Unf w b ∧ ∀ j, j < n → ∃ z : Int, w.cell? ⟨b, o + j, none⟩ = some (.int .u8 z))
theorem OwnB.of {w w0 : World} {x8 : Value} {v : Cn} (h : BS w (fun j => w0.heap.size ≤ j ∧ Unf w j) x8 v) : OwnB w x8 v.length w0.heap.size := by
  obtain ⟨A, cc, rfl, hc, hr⟩ := h
  refine ⟨A, cc, rfl, hc.1, fun h0 => ?_⟩
  obtain ⟨ad, rfl, hb, hcell⟩ := hr.2 h0
  have hl : ∀ j (hj : j < v.length), w.cell? (ad.add j) = some (.int .u8 (v[j].toNat : Int)) := fun j hj => hcell j _ (by rw [cs8_get, List.getElem?_eq_getElem hj]; rfl)
  have h1 := hl 0 h0
  have hs : ad.spot = none := by
    have := spot_none h1
    rwa [show ad.add 0 = ad by unfold Addr.add; rw [if_pos rfl]] at this
  obtain ⟨b, o, sp⟩ := ad
  cases hs
  refine ⟨b, o, rfl, hb.1, hb.2, fun j hj => ⟨(v[j].toNat : Int), ?_⟩⟩
  rw [add_plain ⟨b, o, none⟩ j rfl]
  exact hl j hj
theorem OwnB.below {w w' : World} {x8 : Value} {n B : Nat} (h : OwnB w x8 n B) (hk : ∀ j, B ≤ j → j < w.heap.size → w'.heap[j]? = w.heap[j]?) : OwnB w' x8 n B := by
  obtain ⟨A, cc, e, hc, h⟩ := h
  refine ⟨A, cc, e, hc, fun h0 => ?_⟩
  obtain ⟨b, o, e2, hb, hu, hl⟩ := h h0
  obtain ⟨z, hz⟩ := hl 0 h0
  have hlt := cell_in hz
  exact ⟨b, o, e2, hb, hu.of (hk b hb hlt), fun j hj => by
    obtain ⟨z, hz⟩ := hl j hj
    exact ⟨z, (heap_cell (p := ⟨b, o + j, none⟩) (hk b hb hlt)).trans hz⟩⟩
theorem OwnB.set_ {w : World} {n B b o k : Nat} {cc : Nat} (h : OwnB w (.slice (some ⟨b, o, none⟩) n cc) n B) (hk : k < n) (z : Int) : OwnB (w.setCell ⟨b, o + k, none⟩ (.int .u8 z)) (.slice (some ⟨b, o, none⟩) n cc) n B := by
  obtain ⟨A, cc', e, hc, h⟩ := h
  injection e with e1 e2 e3
  subst e1 e3
  obtain ⟨b', o', e2, hb, hu, hl⟩ := h (by omega)
  injection e2 with e2
  injection e2 with e3 e4 _
  subst e3 e4
  refine ⟨_, cc, rfl, hc, fun _ => ⟨b, o, rfl, hb, ?_, fun j hj => ?_⟩⟩
  · obtain ⟨cs, t, hh⟩ := hu
    exact ⟨cs.setIfInBounds (o + k) (.int .u8 z), t, heap_setCell_same w b (o + k) cs t _ hh⟩
  · by_cases hjk : j = k
    · subst hjk
      obtain ⟨cs, t, hh⟩ := hu
      obtain ⟨z0, hz0⟩ := hl j hj
      refine ⟨z, ?_⟩
      rw [cell_of_row _ b (o + j) (cs.setIfInBounds (o + j) (.int .u8 z)) t (0, 0) (heap_setCell_same w b (o + j) cs t _ hh)]
      have hlt : o + j < cs.size := by
        rw [cell_of_row w b (o + j) cs t (0, 0) hh] at hz0
        rcases Nat.lt_or_ge (o + j) cs.size with q | q
        · exact q
        · rw [Array.getElem?_eq_none q] at hz0; cases hz0
      simp [Array.getElem?_setIfInBounds, hlt]
    · obtain ⟨z0, hz0⟩ := hl j hj
      refine ⟨z0, ?_⟩
      rw [World.cell?_setCell_other w ⟨b, o + k, none⟩ ⟨b, o + j, none⟩ _ (fun e => by injection e with _ e; omega)]
      exact hz0
theorem nget {w wr wk : World} {c : Pct} {tb pg h : Nat} {m3 : Pst} {x : KI} {key val : Cn} {v : Value} (hn : NlS w c tb m3 wr) (hb : Below wr.heap.size wr wk) (hk : BS wk (fun j => wr.heap.size ≤ j ∧ j < wk.heap.size) v key) (hx : KidT c m3 h x) (hh : h ≤ 32) (hr : RiseI x.2) (hv : valOf x.2 key = some val) (hpg : x.1.p = pg) :
    Calls Try.prog 12 #[.pointer (some ⟨tb, 0, none⟩), .int .i64 (pg : Int), v] wk fun e w7 => ∃ x8, e = .returned (.tuple #[x8, .int .i64 0]) ∧ BS w7 (fun j => wk.heap.size ≤ j ∧ Unf w7 j) x8 val ∧ NlS w c tb m3 w7 ∧ wk.heap.size ≤ w7.heap.size := by
  subst hpg
  have h1 := hn.below hb
  refine (tget_u h1.pg h1.tr h1.nt (hk.keep (fun _ _ _ => rfl) (fun j hj _ hpf => by have := PF.lt hn.pg hpf; omega)) hx.2.1.trP hh (rise_items.2 hr)).mono ?_
  rintro e w7 ⟨h2, h3, h4⟩
  rw [hv] at h2
  obtain ⟨x8, rfl, h5⟩ := h2
  exact ⟨x8, rfl, h5, h1.got h3 h4, h4.size⟩
set_option maxRecDepth 100000 in
set_option maxHeartbeats 16000000 in
theorem treeNil_any {w : World} {F : Nat → Prop} {vl : Value} {put : List It} (h1 : SLk 2 ItR w F vl put) (hlen : put.length ≤ 2000000) (hp : ∀ x ∈ put, x.k.length ≤ 1073741824 ∧ x.v.length ≤ 1073741824) :
    Calls Try.prog 6 #[vl] w fun e w' => e = .returned (.bool true) ∧ Below w.heap.size w w' := by
  obtain ⟨i1, hi1, hy0, hy1, hy2⟩ := info_parts u8_info
  have HI1 := hide hi1
  have HY0 := hide hy0
  have H1 := hide (show SLk 2 ItR w (fun j => j < w.heap.size) vl put from h1.keep (by omega) @ItR.keep (fun _ _ _ => rfl) (fun j _ hj => hj))
  have HP := hide hp
  obtain ⟨A1, c1, xs1, rfl, hc1, _⟩ := h1
  clear hi1 hy0 hp
  have hfr := fresh_any w 3000 (by omega) (by omega)
  rw [show ((3000 : Nat) : Int) = 3000 from rfl] at hfr
  have HFR := hide hfr
  clear hfr
  obtain ⟨n1, hn1⟩ : ∃ n, put.length = n := ⟨_, rfl⟩
  have HN1 := hide hn1
  rw [hn1] at H1 hc1 hlen ⊢
  clear hn1
  go_enter Try.func6, Try.ntmps6
  go_upto_region 2 with (go_at_call 7; (refine HFR.out.mono ?_); rintro e w1 ⟨tb, c, m, rfl, hf⟩; have HF1 := hide hf; clear hf)
  go_upto_region 4 with (go_at_call 8; (refine (answers17 w1).mono ?_); rintro e w2 ⟨rfl, hb⟩; have HB2 := hide hb; clear hb)
  have HBw2 := hide (show Below w.heap.size w w2 from HF1.out.bel.trans (HB2.out.mono HF1.out.bel.size))
  have HOwn := hide (lown_any (w := w2) (H1.out.keep (F' := fun j => j < w2.heap.size) (by omega) @ItR.keep (fun j hj _ => HBw2.out.block j hj) (fun j hj _ => Nat.lt_of_lt_of_le hj HBw2.out.size)) (by rw [HN1.out]; omega) HP.out)
  have HPut := hide (fun (w3 : World) (v : Value) (hb : Below w2.heap.size w2 w3) (hs : SLk 2 ItR w3 (fun j => w2.heap.size ≤ j ∧ j < w3.heap.size) v put) =>
    ((tput_zero (w := w3) (c := c) (m := m) (Pg.below (Pg.below HF1.out.pg HB2.out) hb) ((HF1.out.tr.below HB2.out HF1.out.tr.lt).below hb (HF1.out.tr.below HB2.out HF1.out.tr.lt).lt) HF1.out.nt (hs.keep (F' := fun j => j < w3.heap.size) (by omega) @ItR.keep (fun _ _ _ => rfl) (fun j hj _ => hj.2)) (SLk.nil (R := BsR) (k := 1) w3 (fun j => j < w3.heap.size)) (by rw [HN1.out]; simp; omega) HP.out (by simp) (by rw [HF1.out.n0]; omega)).mono (R' := fun e w4 => ∃ r ev : Int, e = .returned (.tuple #[.int .i64 r, .int .i64 ev]) ∧ NilI w c tb put w4 r ev) (fun e w4 ⟨l, hperm, _, hcase⟩ => by
      have hbw3 : Below w.heap.size w w3 := HBw2.out.trans (hb.mono HBw2.out.size)
      rcases hcase with ⟨hok, m3, T, g1, g2, g3, _, _, hh⟩ | ⟨_, he, hb4⟩
      · have hb4 : Below w.heap.size w w4 := hbw3.trans (g2.below hbw3.size HF1.out.pl)
        rcases hh with ⟨he, hz⟩ | ⟨x, k, n0, he, hkt, hx2, hn0, hch, _⟩ | ⟨he, _, _⟩
        · exact ⟨0, 0, he, hb4, fun _ => .inl (put_some hperm hz)⟩
        · refine ⟨_, 0, he, hb4, fun _ => .inr ⟨x, m3, 1 + k, rfl, ⟨g1, ?_, ?_, ?_, HF1.out.tl, hb4⟩, hkt, ?_, ?_, ?_⟩⟩
          · have h2 := (HF1.out.tr.below HB2.out HF1.out.tr.lt)
            exact g2.blk (h2.below hb h2.lt) HF1.out.nt
          · intro hpf
            rcases g3 _ hpf with q | q
            · exact HF1.out.nt q
            · have h2 := (HF1.out.tr.below HB2.out HF1.out.tr.lt).lt
              have := hb.size
              omega
          · intro j hj
            rcases g3 j hj with q | q
            · exact HF1.out.pl j q
            · have := hbw3.size; omega
          · have := (hch.pow (a := 6) (by have := HN1.out; simp at hn0; omega)).1
            omega
          · rw [hx2]; exact (mergeC_law [] l List.Pairwise.nil hok.2).1
          · intro i hi
            rw [hx2]
            exact put_found hperm hok.2 hi
        · exact ⟨0, 16, he, hb4, fun e => by cases e⟩
      · exact ⟨0, 1, he, hbw3.trans (hb4.mono hbw3.size), fun e => by cases e⟩)))
  go_upto_region 5 with (first | (go_at_call 16; (refine (HPut.out w3 v3 HB3.out HSL3.out).mono ?_); rintro e w4 ⟨r, ev, rfl, hni⟩; have HNI := hide hni; clear hni) | (go_at_call 15; (refine HOwn.out.mono ?_); rintro e w3 ⟨v3, rfl, hsl, hb⟩; have HB3 := hide hb; have HSL3 := hide hsl; clear hb hsl))
  have kc := fun (w : World) (C : Array Value) (n c : Nat) => Lib.run_convert_bytes_const (P := Try.prog) w 38 5 C n c Try.underlying38 Try.underlying5
  have KC := hide kc
  clear kc
  go_wp2_with fail
  go_loopw [7] (fun vi wr => ∃ i : Nat, vi = .int .i64 (i : Int) ∧ i ≤ 50 ∧ Hid (NilI w c tb put wr r ev)) (fun vi _ => 50 - (intOf vi).toNat)
  case atStart => exact ⟨0, rfl, by omega, HNI⟩
  case round =>
    clear HNI
    obtain ⟨i, rfl, hi50, HNI⟩ := hrel
    by_cases he : ev = 0
    · subst he
      by_cases hin : i < n1
      · by_cases hi5 : i < 50
        · have hput : put ≠ [] := fun e => by have := HN1.out; rw [e] at this; simp at this; omega
          obtain ⟨x, m3, h, rfl, hnl, hkt, hh, hri, hval⟩ := (HNI.out.2 rfl).resolve_left hput
          have HNL := hide hnl
          have HKT := hide hkt
          have HRI := hide hri
          have hi' : i < put.length := by rw [HN1.out]; exact hin
          have HVal := hide (hval i hi')
          have HVall := hide hval
          obtain ⟨b, o, A0, c0, B0, d0, rfl, hb, _, k0, k1, hit⟩ := H1.out.at_it hi'
          have hx := HP.out put[i] (List.getElem_mem hi')
          obtain ⟨y, hy⟩ : ∃ y, put[i] = y := ⟨_, rfl⟩
          rw [hy] at k0 k1 hx hit HVal
          obtain ⟨kl, hkl⟩ : ∃ kl, y.k.length = kl := ⟨_, rfl⟩
          obtain ⟨vl0, hvl⟩ : ∃ vl, y.v.length = vl := ⟨_, rfl⟩
          have HKL := hide hkl
          have HVL := hide hvl
          rw [hkl, hvl] at hx
          rw [hkl] at k0 hit
          rw [hvl] at k1 hit
          obtain ⟨hx1, hx2⟩ := hx
          obtain ⟨a, a', e, hik, hiv⟩ := hit
          injection e with e1 e
          injection e with e2 _
          subst e1 e2
          have HIK := hide hik
          have HIV := hide hiv
          have HK0 := hide k0
          have HK1 := hide k1
          clear hnl hkt hri hval hy hkl hvl hik hiv k0 k1 hput
          have hic : i < c1 := by omega
          obtain ⟨pg, hpg⟩ : ∃ pg, x.1.p = pg := ⟨_, rfl⟩
          have HPG := hide hpg
          rw [hpg]
          clear hpg
          have HNLx := HNL
          have k0 := (HNLx.out.bel.cell (p := ⟨b, o + i * 2, none⟩) hb).trans HK0.out
          have zz := Nat.lt_of_lt_of_le hb HNLx.out.bel.size
          have HKW := hide (show BSw wr (.slice A0 kl c0) y.k from HIK.out.later HNLx.out.bel)
          obtain ⟨wa, hwa⟩ : ∃ wa, wr.alloc (.cells #[] T8) = wa := ⟨_, rfl⟩
          have HWA := hide hwa
          have HBa := hide (show Below wr.heap.size wr wa from hwa ▸ al_below wr _)
          clear hwa
          have HRd := hide (show Reads wa wa.heap.size 1 A0 kl (cs8 y.k) from by
            have hk := HKW.out.later HBa.out
            obtain ⟨A9, c9, e9, _, hr9⟩ := hk
            injection e9 with e9 e10 e11
            subst e9 e11
            exact HKL.out ▸ hr9.reads (fun _ h => h))
          go_upto_region 9 with (first | (go_at_call 12; (refine (nget HNLx.out HBk.out HBV.out HKT.out hh HRI.out HVal.out HPG.out).mono ?_); rintro e w7 ⟨x8, rfl, hbs, hn7, hs7⟩; have HBS7 := hide hbs; have HN7 := hide hn7; have HS7 := hide hs7; clear hbs hn7 hs7) | (at_builtin; (try rw [HWA.out]); refine wpList_append_lit wa rfl (.tmp 60) (.tmp 65) _ rfl T8 i1 _ 1 1 Try.underlying38 HI1.out HY0.out hy1 hy2 rfl (by omega) ⟨wr.heap.size, 0, none⟩ rfl A0 kl c0 (cs8 y.k) rfl HRd.out (cs8_one _) (by unfold maxLen; omega) (by omega) ?_; intro v' wk ho hbw; have HBV := hide ((BS.lit (g := ⟨wr.heap.size, 0, none⟩) (HKL.out.symm ▸ ho)).fresh HBa.out.size); have HBk := hide (show Below wr.heap.size wr wk from HBa.out.trans (hbw.mono HBa.out.size)); clear ho hbw k0 zz))
          obtain ⟨B8, hB8⟩ : ∃ B8, wk.heap.size = B8 := ⟨_, rfl⟩
          have HB8 := hide (show w.heap.size ≤ B8 ∧ (∀ j, PF m3.F c.pb c.sb j → j < B8) ∧ tb < B8 from by
            have h1 := HNLx.out.bel.size
            have h2 := HBk.out.size
            have h3 := HNLx.out.tr.lt
            exact ⟨by omega, fun j hj => by have := PF.lt HNLx.out.pg hj; omega, by omega⟩)
          have HOw := hide (OwnB.of HBS7.out)
          rw [hB8, HVL.out] at HOw
          obtain ⟨A8, cc8, rfl, hcc8, _⟩ := HOw.out
          have HN7b := HN7
          have hvm : vl0 ≤ 9000000000000 := by omega
          clear hB8 HBS7 HN7 HS7 HBV HBk HRd HKW HBa HWA HNLx HNL
          go_wp2_with fail
          go_loopw [10] (fun vk w8 => ∃ k : Nat, vk = .int .i64 (k : Int) ∧ k ≤ vl0 ∧ Hid (NlS w c tb m3 w8) ∧ Hid (OwnB w8 (.slice A8 vl0 cc8) vl0 B8)) (fun vk _ => vl0 - (intOf vk).toNat)
          case atStart => exact ⟨0, rfl, by omega, HN7b, HOw⟩
          case round =>
            clear HN7b HOw
            obtain ⟨k, rfl, hkv, HNL, HOw⟩ := hrel
            by_cases hlt : k < vl0
            · obtain ⟨A9, cc9, e9, _, hown⟩ := HOw.out
              injection e9 with e9 _ e11
              subst e9 e11
              obtain ⟨b8, o8, rfl, hb8, hu8, hl8⟩ := hown (by omega)
              obtain ⟨z, hz⟩ := hl8 k hlt
              have zz := cell_in hz
              have ff : wr.frozen? ⟨b8, o8 + k, none⟩ = false := by
                obtain ⟨cs, t, hh⟩ := hu8
                exact frozen_of_row _ b8 (o8 + k) cs t hh
              have hkm : k + 1 ≤ 9223372036854775807 := by omega
              have hkc : k < cc8 := by omega
              clear hown hl8 hu8
              go_wp2_with fail
              refine ⟨⟨k + 1, by push_cast; rfl, by omega, hide (HNL.out.set_ _ (Nat.le_trans HB8.out.1 hb8) (fun hpf => by have := HB8.out.2.1 _ hpf; have h9 : B8 ≤ b8 := hb8; have h10 : b8 < B8 := this; omega) (fun e => by have h9 : B8 ≤ b8 := hb8; have h10 : b8 = tb := e; have := HB8.out.2.2; omega)), hide (HOw.out.set_ hlt _)⟩, ?_⟩
              simp [intOf]
              omega
            · obtain rfl : vl0 = k := by omega
              have HNLx := HNL
              have k0 := (HNLx.out.bel.cell (p := ⟨b, o + i * 2, none⟩) hb).trans HK0.out
              have zz := Nat.lt_of_lt_of_le hb HNLx.out.bel.size
              have HKW := hide (show BSw wr (.slice A0 kl c0) y.k from HIK.out.later HNLx.out.bel)
              obtain ⟨wa, hwa⟩ : ∃ wa, wr.alloc (.cells #[] T8) = wa := ⟨_, rfl⟩
              have HWA := hide hwa
              have HBa := hide (show Below wr.heap.size wr wa from hwa ▸ al_below wr _)
              clear hwa
              have HRd := hide (show Reads wa wa.heap.size 1 A0 kl (cs8 y.k) from by
                have hk := HKW.out.later HBa.out
                obtain ⟨A9, c9, e9, _, hr9⟩ := hk
                injection e9 with e9 e10 e11
                subst e9 e11
                exact HKL.out ▸ hr9.reads (fun _ h => h))
              go_upto_region 14 with (first | (go_at_call 12; (refine (nget HNLx.out HBk.out HBV.out HKT.out hh HRI.out HVal.out HPG.out).mono ?_); rintro e w7 ⟨x8, rfl, hbs, hn7, hs7⟩; have HBS7 := hide hbs; have HN7 := hide hn7; have HS7 := hide hs7; clear hbs hn7 hs7) | (at_builtin; (try rw [HWA.out]); refine wpList_append_lit wa rfl (.tmp 87) (.tmp 92) _ rfl T8 i1 _ 1 1 Try.underlying38 HI1.out HY0.out hy1 hy2 rfl (by omega) ⟨wr.heap.size, 0, none⟩ rfl A0 kl c0 (cs8 y.k) rfl HRd.out (cs8_one _) (by unfold maxLen; omega) (by omega) ?_; intro v' wk ho hbw; have HBV := hide ((BS.lit (g := ⟨wr.heap.size, 0, none⟩) (HKL.out.symm ▸ ho)).fresh HBa.out.size); have HBk := hide (show Below wr.heap.size wr wk from HBa.out.trans (hbw.mono HBa.out.size)); clear ho hbw k0 zz))
              have HBV7 := hide (HBS7.out.keep (F' := fun j => j < w7.heap.size) (fun _ _ _ => rfl) (fun j _ hj => hj))
              have HIV7 := hide (HIV.out.later HN7.out.bel)
              have hc1 : ∀ N, (convert 38 9 x8).run Try.prog (w7.drewN N) = .ok (.string ⟨y.v.toArray⟩) (w7.drewN N) := fun N => bs_string (w := w7.drewN N) (F := fun j => j < w7.heap.size) HBV7.out
              have hc2 : ∀ N, (convert 38 9 (.slice B0 vl0 d0)).run Try.prog (w7.drewN N) = .ok (.string ⟨y.v.toArray⟩) (w7.drewN N) := fun N => bs_string (w := w7.drewN N) (F := fun j => j < w7.heap.size) HIV7.out
              have k1 := (HN7.out.bel.cell (p := ⟨b, o + i * 2 + 1, none⟩) hb).trans HK1.out
              have zz := Nat.lt_of_lt_of_le hb HN7.out.bel.size
              go_quiet (fail)
              obtain ⟨w8, hw8⟩ : ∃ w8, w7.drewN nq = w8 := ⟨_, rfl⟩
              have HBd := hide (show Below w7.heap.size w7 w8 from hw8 ▸ below_drewN (Below.refl _ _) nq)
              have HN8 := hide (HN7.out.below HBd.out)
              rw [hw8]
              clear hw8 hc1 hc2 k1 zz
              have him : i + 1 ≤ 9223372036854775807 := by omega
              go_wp2_with fail
              refine ⟨⟨i + 1, by push_cast; rfl, by omega, hide ⟨HN8.out.bel, fun _ => .inr ⟨x, m3, h, by rw [HPG.out], HN8.out, HKT.out, hh, HRI.out, HVall.out⟩⟩⟩, ?_⟩
              simp [intOf]
              omega
        · have d1 : decide ((i : Int) < 50) = false := by simp; omega
          have kc := KC.out
          go_upto_region 18 with (go_at_call 12; (refine (tget_bad (.inl rfl)).mono ?_); rintro e w5 ⟨rfl, e5⟩; rw [e5]; clear e5)
          obtain ⟨w6, hw6⟩ : ∃ w6, wr.alloc (.cells #[.int .u8 97] T8 (1, 2)) = w6 := ⟨_, rfl⟩
          have HB6 := hide (show Below wr.heap.size wr w6 from hw6 ▸ al_below wr _)
          (try rw [hw6])
          clear hw6
          go_upto_region 19 with (go_at_call 16; (refine (tput_bad (.inl rfl)).mono ?_); rintro e w5 ⟨rfl, e5⟩; rw [e5]; clear e5)
          go_upto_region 20 with (go_at_call 10; (refine (tscan_bad (.inl rfl)).mono ?_); rintro e w8 ⟨rfl, hb⟩; have HB8 := hide hb; clear hb)
          go_upto_region 21 with (go_at_call 17; (refine (tpages_bad (.inl rfl)).mono ?_); rintro e w5 ⟨rfl, e5⟩; rw [e5]; clear e5)
          go_upto_region 23 with (go_at_call 18; (refine (tnew_any _ _).mono ?_); rintro e w9 ⟨tb9, rfl, htb9, hblk, hb⟩; have HT9 := hide hblk; have HB9 := hide hb; clear hblk hb htb9)
          obtain ⟨w10, hw10⟩ : ∃ w10, w9.alloc (.cells #[.int .u8 97] T8 (1, 2)) = w10 := ⟨_, rfl⟩
          have HW10 := hide hw10
          have HB10 := hide (show Below w9.heap.size w9 w10 from hw10 ▸ al_below w9 _)
          have HNo := hide (show noTree w10 (.pointer (some ⟨tb9, 0, none⟩)) from .inr ⟨tb9, rfl, HT9.out.below HB10.out HT9.out.lt⟩)
          clear hw10
          go_wp2_with (go_at_call 12; (try rw [HW10.out]); (refine (tget_bad HNo.out).mono ?_); rintro e w5 ⟨rfl, e5⟩; rw [e5]; clear e5)
          go_ret
          exact ⟨rfl, (((HNI.out.1.trans (HB6.out.mono HNI.out.1.size)).trans (HB8.out.mono (Nat.le_trans HNI.out.1.size HB6.out.size))).trans (HB9.out.mono (Nat.le_trans HNI.out.1.size (Nat.le_trans HB6.out.size HB8.out.size)))).trans (HB10.out.mono (Nat.le_trans HNI.out.1.size (Nat.le_trans HB6.out.size (Nat.le_trans HB8.out.size HB9.out.size))))⟩
      · have d1 : decide ((i : Int) < (n1 : Int)) = false := by simp; omega
        have kc := KC.out
        go_upto_region 18 with (go_at_call 12; (refine (tget_bad (.inl rfl)).mono ?_); rintro e w5 ⟨rfl, e5⟩; rw [e5]; clear e5)
        obtain ⟨w6, hw6⟩ : ∃ w6, wr.alloc (.cells #[.int .u8 97] T8 (1, 2)) = w6 := ⟨_, rfl⟩
        have HB6 := hide (show Below wr.heap.size wr w6 from hw6 ▸ al_below wr _)
        (try rw [hw6])
        clear hw6
        go_upto_region 19 with (go_at_call 16; (refine (tput_bad (.inl rfl)).mono ?_); rintro e w5 ⟨rfl, e5⟩; rw [e5]; clear e5)
        go_upto_region 20 with (go_at_call 10; (refine (tscan_bad (.inl rfl)).mono ?_); rintro e w8 ⟨rfl, hb⟩; have HB8 := hide hb; clear hb)
        go_upto_region 21 with (go_at_call 17; (refine (tpages_bad (.inl rfl)).mono ?_); rintro e w5 ⟨rfl, e5⟩; rw [e5]; clear e5)
        go_upto_region 23 with (go_at_call 18; (refine (tnew_any _ _).mono ?_); rintro e w9 ⟨tb9, rfl, htb9, hblk, hb⟩; have HT9 := hide hblk; have HB9 := hide hb; clear hblk hb htb9)
        obtain ⟨w10, hw10⟩ : ∃ w10, w9.alloc (.cells #[.int .u8 97] T8 (1, 2)) = w10 := ⟨_, rfl⟩
        have HW10 := hide hw10
        have HB10 := hide (show Below w9.heap.size w9 w10 from hw10 ▸ al_below w9 _)
        have HNo := hide (show noTree w10 (.pointer (some ⟨tb9, 0, none⟩)) from .inr ⟨tb9, rfl, HT9.out.below HB10.out HT9.out.lt⟩)
        clear hw10
        go_wp2_with (go_at_call 12; (try rw [HW10.out]); (refine (tget_bad HNo.out).mono ?_); rintro e w5 ⟨rfl, e5⟩; rw [e5]; clear e5)
        go_ret
        exact ⟨rfl, (((HNI.out.1.trans (HB6.out.mono HNI.out.1.size)).trans (HB8.out.mono (Nat.le_trans HNI.out.1.size HB6.out.size))).trans (HB9.out.mono (Nat.le_trans HNI.out.1.size (Nat.le_trans HB6.out.size HB8.out.size)))).trans (HB10.out.mono (Nat.le_trans HNI.out.1.size (Nat.le_trans HB6.out.size (Nat.le_trans HB8.out.size HB9.out.size))))⟩
    · have d1 : (ev == 0) = false := by simpa using he
      have kc := KC.out
      go_upto_region 18 with (go_at_call 12; (refine (tget_bad (.inl rfl)).mono ?_); rintro e w5 ⟨rfl, e5⟩; rw [e5]; clear e5)
      obtain ⟨w6, hw6⟩ : ∃ w6, wr.alloc (.cells #[.int .u8 97] T8 (1, 2)) = w6 := ⟨_, rfl⟩
      have HB6 := hide (show Below wr.heap.size wr w6 from hw6 ▸ al_below wr _)
      (try rw [hw6])
      clear hw6
      go_upto_region 19 with (go_at_call 16; (refine (tput_bad (.inl rfl)).mono ?_); rintro e w5 ⟨rfl, e5⟩; rw [e5]; clear e5)
      go_upto_region 20 with (go_at_call 10; (refine (tscan_bad (.inl rfl)).mono ?_); rintro e w8 ⟨rfl, hb⟩; have HB8 := hide hb; clear hb)
      go_upto_region 21 with (go_at_call 17; (refine (tpages_bad (.inl rfl)).mono ?_); rintro e w5 ⟨rfl, e5⟩; rw [e5]; clear e5)
      go_upto_region 23 with (go_at_call 18; (refine (tnew_any _ _).mono ?_); rintro e w9 ⟨tb9, rfl, htb9, hblk, hb⟩; have HT9 := hide hblk; have HB9 := hide hb; clear hblk hb htb9)
      obtain ⟨w10, hw10⟩ : ∃ w10, w9.alloc (.cells #[.int .u8 97] T8 (1, 2)) = w10 := ⟨_, rfl⟩
      have HW10 := hide hw10
      have HB10 := hide (show Below w9.heap.size w9 w10 from hw10 ▸ al_below w9 _)
      have HNo := hide (show noTree w10 (.pointer (some ⟨tb9, 0, none⟩)) from .inr ⟨tb9, rfl, HT9.out.below HB10.out HT9.out.lt⟩)
      clear hw10
      go_wp2_with (go_at_call 12; (try rw [HW10.out]); (refine (tget_bad HNo.out).mono ?_); rintro e w5 ⟨rfl, e5⟩; rw [e5]; clear e5)
      go_ret
      exact ⟨rfl, (((HNI.out.1.trans (HB6.out.mono HNI.out.1.size)).trans (HB8.out.mono (Nat.le_trans HNI.out.1.size HB6.out.size))).trans (HB9.out.mono (Nat.le_trans HNI.out.1.size (Nat.le_trans HB6.out.size HB8.out.size)))).trans (HB10.out.mono (Nat.le_trans HNI.out.1.size (Nat.le_trans HB6.out.size (Nat.le_trans HB8.out.size HB9.out.size))))⟩
end Go.Proofs.Ytkolacaceaamoaa
