/- The pager: a pager as a whole, and Read of a page. -/
import Derived.Test.YtddcmockdomonaaPgU
namespace Go.Proofs.Ytddcmockdomonaa
set_option linter.unusedSimpArgs false
set_option linter.unusedVariables false
open Go.RowKit
theorem Sec.set_off {w w' : World} {F : Nat → Prop} {b : Nat} {out : Bool} {left size : Int} {S : Int → Cn} {L : List (Int × Cn)} {N g : Nat} (h : Sec w F b out left size S L N) (hg : w.grownBy w' (some g)) (hn : ¬ F g) : Sec w' F b out left size S L N :=
  h.apart (G := fun j => j = g) (Fr.of_grown hg (fun k e => by injection e with e; exact e.symm)) (fun j hj e => hn (e ▸ hj))
/-- A pager, its disk, and what stands where. -/
structure Pg (w : World) (F : Nat → Prop) (pb sb db n : Nat) (left : Int) (S : Int → Cn) (L : List (Int × Cn)) (N : Nat) (seq root frm : Int) (st : Cn) : Prop where
  sec : Sec w F db false left (n : Int) S L N
  blk : Blk w pb TP (pk db sb n seq root frm false)
  sblk : Blk w sb T8 (cs8 st).toArray
  len : st.length = n
  h4 : 4 ≤ n
  np : ¬ F pb
  ns : ¬ F sb
  hsq : 0 ≤ seq ∧ seq < 4000000000
  hrt : 0 ≤ root ∧ root < n
  hfr : 0 ≤ frm ∧ frm < n
section
variable {w w' : World} {F : Nat → Prop} {pb sb db n : Nat} {left : Int} {S : Int → Cn} {L : List (Int × Cn)} {N : Nat} {seq root frm : Int} {st : Cn}
theorem Pg.ne (h : Pg w F pb sb db n left S L N seq root frm st) : pb ≠ sb := Blk.ne_ h.blk h.sblk (by decide)
theorem Pg.hn (h : Pg w F pb sb db n left S L N seq root frm st) : n ≤ 65536 := by obtain ⟨_, _, _, _, _, k⟩ := h.sec; have := k.hs; omega
theorem Pg.below (h : Pg w F pb sb db n left S L N seq root frm st) (hb : Below w.heap.size w w') : Pg w' F pb sb db n left S L N seq root frm st :=
  { h with sec := h.sec.below hb, blk := h.blk.below hb h.blk.lt, sblk := h.sblk.below hb h.sblk.lt }
/-- The pager's own block turned. -/
theorem Pg.self {seq' root' frm' : Int} (h : Pg w F pb sb db n left S L N seq root frm st) (hg : w.grownBy w' (some pb)) (hB : Blk w' pb TP (pk db sb n seq' root' frm' false)) (h1 : 0 ≤ seq' ∧ seq' < 4000000000) (h2 : 0 ≤ root' ∧ root' < n) (h3 : 0 ≤ frm' ∧ frm' < n) : Pg w' F pb sb db n left S L N seq' root' frm' st :=
  { h with sec := h.sec.set_off hg h.np, blk := hB, sblk := h.sblk.grown hg (fun e => h.ne (by injection e with e; exact e.symm)), hsq := h1, hrt := h2, hfr := h3 }
/-- What a call of the pager may turn. -/
def PF (F : Nat → Prop) (pb sb : Nat) : Nat → Prop := fun j => F j ∨ j = pb ∨ j = sb
theorem Fr.of_pb {F : Nat → Prop} {pb sb : Nat} {w w' : World} (h : w.grownBy w' (some pb)) : Fr (PF F pb sb) w w' := Fr.of_grown h (fun k e => by injection e with e; exact .inr (.inl e.symm))
theorem Fr.low {F : Nat → Prop} {w w' : World} (h : Below w.heap.size w w') : Fr F w w' := Fr.of_below h
theorem Fil.did {w2 w3 w4 : World} {v : Value} {c : Cn} {pb : Nat} (h : Fil w3 (fun j => w2.heap.size ≤ j) v c) (hg : w3.grownBy w4 (some pb)) (hp : pb < w2.heap.size) : Fil w4 (fun j => w2.heap.size ≤ j) v c := by
  obtain ⟨hc, g, cap, cs, e, hgg, hb, hcs⟩ := h
  exact ⟨hc, g, cap, cs, e, hgg, hb.grown hg (fun e => by injection e with e; omega), hcs⟩
theorem own_down {w : World} {B B' : Nat} {e : TypeId} {size : Nat} {v : Value} {n : Nat} {xs : List Value} (h : w.ownsRow B e size v n xs) (hB : B' ≤ B) : w.ownsRow B' e size v n xs := by
  refine ⟨h.1, ?_⟩
  rcases h.2 with hn | ⟨g, cap, cur, e, h1, rest⟩
  · exact .inl hn
  · exact .inr ⟨g, cap, cur, e, by omega, rest⟩
set_option maxRecDepth 100000 in
set_option maxHeartbeats 1000000 in
theorem pread_arg (h : Pg w F pb sb db n left S L N seq root frm st) (x : Int) (hx : pgB n x = false) :
    Calls Try.prog 17 #[.pointer (some ⟨pb, 0, none⟩), .int .i64 x] w fun e w' => e = .returned (.tuple #[.slice none 0 0, .int .i64 1]) ∧ Below w.heap.size w w' := by
  have HP := hide h
  have HPB := hide hx
  clear h hx
  go_enter Try.func17, Try.ntmps17
  go_wp2_with (first | (go_at_call 27; (refine (page_any pb db sb n seq root frm false x w1 (HP.out.below HB1.out).blk).mono ?_); rintro e w2 ⟨rfl, hb⟩; rw [HPB.out]; have HB2 := hide (HB1.out.trans (hb.mono HB1.out.size)); clear hb) | (go_at_call 28; (refine (alive_ok HP.out.sec HP.out.blk).mono ?_); rintro e w1 ⟨rfl, hb⟩; have HB1 := hide hb; clear hb))
  refine bodyPost_ret (v := .tuple #[.slice none 0 0, .int .i64 1]) (by simp [results, Try.results17, go_sem]) rfl ⟨rfl, HB2.out⟩
theorem pread_nil (w : World) (x : Int) :
    Calls Try.prog 17 #[.pointer none, .int .i64 x] w fun e w' => e = .returned (.tuple #[.slice none 0 0, .int .i64 1]) ∧ Below w.heap.size w w' := by
  go_enter Try.func17, Try.ntmps17
  go_wp2_with (go_at_call 28; (refine (alive_nil w).mono ?_); rintro e w1 ⟨rfl, hb⟩; have HB1 := hide hb; clear hb)
  refine bodyPost_ret (v := .tuple #[.slice none 0 0, .int .i64 1]) (by simp [results, Try.results17, go_sem]) rfl ⟨rfl, HB1.out⟩
set_option maxRecDepth 100000 in
set_option maxHeartbeats 1000000 in
theorem pread_bad (h : Pg w F pb sb db n left S L N seq root frm st) (x : Int) (hx : pgB n x = true) (hbad : opS (nowC S L x) = true → opT (nowC S L x) = true) :
    Calls Try.prog 17 #[.pointer (some ⟨pb, 0, none⟩), .int .i64 x] w fun e w' => (∃ k : Int, e = .returned (.tuple #[.slice none 0 0, .int .i64 k])) ∧ Pg w' F pb sb db n left S L N seq root frm st ∧ Fr (PF F pb sb) w w' := by
  have HX := hide (show 0 ≤ x ∧ x < (n : Int) by unfold pgB at hx; simp at hx; omega)
  have HPB := hide hx
  have HP := hide h
  obtain ⟨c, hc⟩ : ∃ c, nowC S L x = c := ⟨_, rfl⟩
  rw [hc] at hbad
  have HC := hide hc
  clear h hx hc
  cases hS : opS c
  · have HS := hide hS
    clear hS hbad
    go_enter Try.func17, Try.ntmps17
    go_wp2_with (first | (go_at_call 39; (obtain ⟨g5, cap5, rfl, hcap5, _, hr5⟩ := HF4.out.rb); (refine (open_sum g5 cap5 c w4 hr5 hcap5 HS.out).mono ?_); rintro e w5 ⟨rfl, hb⟩; have HB5 := hide (HB4.out.trans (Fr.low hb) (fun _ _ h => h)); have HK5 := hide (HK4.out.below hb); clear hb hcap5 hr5) | (go_at_call 30; (refine (did_any pb db sb n seq root frm 0 w3 (HP.out.below HB3.out).blk).mono ?_); rintro e w4 ⟨rfl, hk, hg⟩; have HK4 := hide ((HP.out.below HB3.out).self hg hk HP.out.hsq HP.out.hrt HP.out.hfr); have HB4 := hide (show Fr (PF F pb sb) w w4 from (Fr.low HB3.out).trans (Fr.of_pb hg) (fun _ _ h => h)); have HF4 := hide (show Fil w4 (fun j => w2.heap.size ≤ j) v3 c from HF3.out.did hg (Nat.lt_of_lt_of_le HP.out.blk.lt HB2.out.size)); clear hk hg) | (go_at_call 25; (refine (sec_read0 (HP.out.below HB2.out).sec x HX.out).mono ?_); rintro e w3 ⟨⟨v3, rfl, hf⟩, hb⟩; rw [HC.out] at hf; have HF3 := hide hf; have HB3 := hide (HB2.out.trans (hb.mono HB2.out.size)); clear hf hb) | (go_at_call 27; (refine (page_any pb db sb n seq root frm false x w1 (HP.out.below HB1.out).blk).mono ?_); rintro e w2 ⟨rfl, hb⟩; rw [HPB.out]; have HB2 := hide (HB1.out.trans (hb.mono HB1.out.size)); have k2 := (HP.out.below HB2.out).blk.cell; have q2 := (HP.out.below HB2.out).blk.frozen; have z2 := (HP.out.below HB2.out).blk.lt; unfold pk at k2; clear hb) | (go_at_call 28; (refine (alive_ok HP.out.sec HP.out.blk).mono ?_); rintro e w1 ⟨rfl, hb⟩; have HB1 := hide hb; clear hb))
    refine bodyPost_ret (v := .tuple #[.slice none 0 0, .int .i64 13]) (by simp [results, Try.results17, go_sem]) rfl ⟨⟨_, rfl⟩, HK5.out, HB5.out⟩
  · have HS := hide hS
    have HT := hide (hbad hS)
    clear hS hbad
    go_enter Try.func17, Try.ntmps17
    go_wp2_with (first | (go_at_call 39; (obtain ⟨g5, cap5, rfl, hcap5, _, hr5⟩ := HF4.out.rb); (refine (open_text g5 cap5 c w4 hr5 hcap5 HS.out HT.out).mono ?_); rintro e w5 ⟨rfl, hb⟩; have HB5 := hide (HB4.out.trans (Fr.low hb) (fun _ _ h => h)); have HK5 := hide (HK4.out.below hb); clear hb hcap5 hr5) | (go_at_call 30; (refine (did_any pb db sb n seq root frm 0 w3 (HP.out.below HB3.out).blk).mono ?_); rintro e w4 ⟨rfl, hk, hg⟩; have HK4 := hide ((HP.out.below HB3.out).self hg hk HP.out.hsq HP.out.hrt HP.out.hfr); have HB4 := hide (show Fr (PF F pb sb) w w4 from (Fr.low HB3.out).trans (Fr.of_pb hg) (fun _ _ h => h)); have HF4 := hide (show Fil w4 (fun j => w2.heap.size ≤ j) v3 c from HF3.out.did hg (Nat.lt_of_lt_of_le HP.out.blk.lt HB2.out.size)); clear hk hg) | (go_at_call 25; (refine (sec_read0 (HP.out.below HB2.out).sec x HX.out).mono ?_); rintro e w3 ⟨⟨v3, rfl, hf⟩, hb⟩; rw [HC.out] at hf; have HF3 := hide hf; have HB3 := hide (HB2.out.trans (hb.mono HB2.out.size)); clear hf hb) | (go_at_call 27; (refine (page_any pb db sb n seq root frm false x w1 (HP.out.below HB1.out).blk).mono ?_); rintro e w2 ⟨rfl, hb⟩; rw [HPB.out]; have HB2 := hide (HB1.out.trans (hb.mono HB1.out.size)); have k2 := (HP.out.below HB2.out).blk.cell; have q2 := (HP.out.below HB2.out).blk.frozen; have z2 := (HP.out.below HB2.out).blk.lt; unfold pk at k2; clear hb) | (go_at_call 28; (refine (alive_ok HP.out.sec HP.out.blk).mono ?_); rintro e w1 ⟨rfl, hb⟩; have HB1 := hide hb; clear hb))
    refine bodyPost_ret (v := .tuple #[.slice none 0 0, .int .i64 11]) (by simp [results, Try.results17, go_sem]) rfl ⟨⟨_, rfl⟩, HK5.out, HB5.out⟩
set_option maxRecDepth 100000 in
set_option maxHeartbeats 1000000 in
theorem pread_ok (h : Pg w F pb sb db n left S L N seq root frm st) (x : Int) (hx : pgB n x = true) (d : Cn) (hd : d.length ≤ 505) (hc : nowC S L x = sealC 2 d) :
    Calls Try.prog 17 #[.pointer (some ⟨pb, 0, none⟩), .int .i64 x] w fun e w' => (∃ v, e = .returned (.tuple #[v, .int .i64 0]) ∧ w'.ownsRow w.heap.size T8 1 v d.length (cs8 d)) ∧ Pg w' F pb sb db n left S L N seq root frm st ∧ Fr (PF F pb sb) w w' := by
  have HX := hide (show 0 ≤ x ∧ x < (n : Int) by unfold pgB at hx; simp at hx; omega)
  have HPB := hide hx
  have HP := hide h
  obtain ⟨c, hc'⟩ : ∃ c, nowC S L x = c := ⟨_, rfl⟩
  rw [hc'] at hc
  have HC := hide hc'
  have hS : opS c = true := by rw [hc]; exact seal_opS
  have hT : opT c = false := by rw [hc]; exact seal_opT (by omega) (by omega)
  have hK : opK c = 2 := by rw [hc]; exact seal_opK (by omega)
  have hN : opN c = d.length := by rw [hc]; exact seal_opN (by omega)
  have hD : opD c = d := by rw [hc]; exact seal_opD (by omega)
  have HO := hide (fun (g cap : Nat) (w : World) (hr : RB w w.heap.size (some ⟨g, 0, none⟩) 512 c) (hcap : 512 ≤ cap) => open_ok g cap c w hr hcap hS hT)
  rw [hK, hN, hD] at HO
  clear h hx hc hc' hS hT hK hN hD
  obtain ⟨m, hm⟩ : ∃ m, d.length = m := ⟨_, rfl⟩
  rw [hm] at HO hd ⊢
  clear hm
  go_enter Try.func17, Try.ntmps17
  go_wp2_with (first | (go_at_call 39; (obtain ⟨g5, cap5, rfl, hcap5, _, hr5⟩ := HF4.out.rb); (refine (HO.out g5 cap5 w4 hr5 hcap5).mono ?_); rintro e w5 ⟨v5, rfl, ho, hb⟩; have HB5 := hide (HB4.out.trans (Fr.low hb) (fun _ _ h => h)); have HK5 := hide (HK4.out.below hb); have HO5 := hide (own_down ho HB4.out.size); clear hb hcap5 hr5 ho) | (go_at_call 30; (refine (did_any pb db sb n seq root frm 0 w3 (HP.out.below HB3.out).blk).mono ?_); rintro e w4 ⟨rfl, hk, hg⟩; have HK4 := hide ((HP.out.below HB3.out).self hg hk HP.out.hsq HP.out.hrt HP.out.hfr); have HB4 := hide (show Fr (PF F pb sb) w w4 from (Fr.low HB3.out).trans (Fr.of_pb hg) (fun _ _ h => h)); have HF4 := hide (show Fil w4 (fun j => w2.heap.size ≤ j) v3 c from HF3.out.did hg (Nat.lt_of_lt_of_le HP.out.blk.lt HB2.out.size)); clear hk hg) | (go_at_call 25; (refine (sec_read0 (HP.out.below HB2.out).sec x HX.out).mono ?_); rintro e w3 ⟨⟨v3, rfl, hf⟩, hb⟩; rw [HC.out] at hf; have HF3 := hide hf; have HB3 := hide (HB2.out.trans (hb.mono HB2.out.size)); clear hf hb) | (go_at_call 27; (refine (page_any pb db sb n seq root frm false x w1 (HP.out.below HB1.out).blk).mono ?_); rintro e w2 ⟨rfl, hb⟩; rw [HPB.out]; have HB2 := hide (HB1.out.trans (hb.mono HB1.out.size)); have k2 := (HP.out.below HB2.out).blk.cell; have q2 := (HP.out.below HB2.out).blk.frozen; have z2 := (HP.out.below HB2.out).blk.lt; unfold pk at k2; clear hb) | (go_at_call 28; (refine (alive_ok HP.out.sec HP.out.blk).mono ?_); rintro e w1 ⟨rfl, hb⟩; have HB1 := hide hb; clear hb))
  refine bodyPost_ret (v := .tuple #[v5, .int .i64 0]) (by simp [results, Try.results17, go_sem]) rfl ⟨⟨_, rfl, HO5.out⟩, HK5.out, HB5.out⟩
end
end Go.Proofs.Ytddcmockdomonaa
