/- The law PagerActs returns true. -/
import Derived.Test.YtddcmockdomonaaPgActN
import Derived.Deep.CutBlock
namespace Go.Proofs.Ytddcmockdomonaa
set_option linter.unusedSimpArgs false
set_option linter.unusedVariables false
open Go.RowKit
theorem AcI.start (n : Nat) : AcI n (fun _ => zC) [] 0 0 (zeroSt n) [] [] [] where
  ri := RI.zero n
  l2 := fun x hx => by cases hx
  m := fun p hp => by cases hp
  nm := List.nodup_nil
  p := fun p hp => by cases hp
  np := List.nodup_nil
  st := fun a _ h => by rw [zero_at h]; rfl
  r := fun p hp => by cases hp
set_option maxRecDepth 1000000 in
set_option maxHeartbeats 4000000 in
theorem pacts_any (t : Int) (acts : List AcV) (A : Option Addr) (nA cA : Nat) (w : World) (ht : 0 ≤ t ∧ t < 256) (hr : Sl 4 AcV.enc w w.heap.size A nA acts) (hok : ∀ x ∈ acts, x.ok w) (hn : nA ≤ 140737488351232) :
    Calls Try.prog 6 #[.int .u8 t, .slice A nA cA] w fun e w' => e = .returned (.bool true) ∧ Below w.heap.size w w' := by
  obtain ⟨T, hT⟩ : ∃ T : Nat, t % 40 = T := ⟨(t % 40).toNat, by omega⟩
  have hT40 : T < 40 := by omega
  have htm : t.tmod 40 = (T : Int) := by rw [Int.tmod_eq_emod_of_nonneg ht.1]; exact hT
  obtain ⟨n, hn'⟩ : ∃ n, n = T + 4 := ⟨_, rfl⟩
  have hnI : (T : Int) + 4 = (n : Int) := by omega
  have HN := hide (show 1 ≤ (n : Int) ∧ (n : Int) ≤ 65536 by omega)
  have HN4 := hide (show 4 ≤ n by omega)
  have HR := hide hr
  have HO := hide hok
  clear hT40 hn' hr hok
  go_enter Try.func6, Try.ntmps6
  go_wp2_with (first | (go_at_call 9; (refine (answers_any w2).mono ?_); rintro e w3 ⟨rfl, hb⟩; have HP3 := hide (HP2.out.below hb); have HB3 := hide (HB2.out.trans (hb.mono HB2.out.size)); clear hb) | (go_at_call 8; (refine (popen_new (n := n) HS1.out HN4.out).mono ?_); rintro e w2 ⟨⟨pb, sb, rfl, hpb, hsb, hp⟩, hb⟩; have HP2 := hide hp; have HB2 := hide (HB1.out.trans (hb.mono HB1.out.size)); have HPB := hide (Nat.le_trans HB1.out.size hpb); have HSB := hide (Nat.le_trans HB1.out.size hsb); clear hp hb hpb hsb) | (go_at_call 7; (refine (sec_new (n : Int) w HN.out).mono ?_); rintro e w1 ⟨rfl, hs, hb⟩; have HS1 := hide hs; have HB1 := hide hb; clear hs hb))
  have hw4 : AcW w (w3.alloc (.cells #[.int .i64 0, .int .i64 0, .slice none 0 0] TS)) (fun j => w.heap.size ≤ j ∧ j < w1.heap.size) pb sb w3.heap.size 0 0 (.slice none 0 0) (.slice none 0 0) (.slice none 0 0) [] [] [] := {
    rn := ⟨rfl, .inl ⟨rfl, rfl⟩⟩
    rp := ⟨rfl, .inl ⟨rfl, rfl⟩⟩
    rs := ⟨rfl, .inl ⟨rfl, rfl⟩⟩
    fn := fun g e => by simp [Value.ownBlock] at e
    fp := fun g e => by simp [Value.ownBlock] at e
    fs := fun g e => by simp [Value.ownBlock] at e
    np := fun g e => by simp [Value.ownBlock] at e
    ns := fun g e => by simp [Value.ownBlock] at e
    ps := fun g e => by simp [Value.ownBlock] at e
    box := Blk.new w3 TS _
    nb := fun e => by have := HP3.out.sec.lt _ e; omega
    below := bal HB3.out _
    low := fun j h => h.1
    hp := HPB.out
    hs := HSB.out
    hb := HB3.out.size }
  have HI0 := hide (show AcS w (w3.alloc (.cells #[.int .i64 0, .int .i64 0, .slice none 0 0] TS)) (w.heap.size + 1) n w3.heap.size (.slice none 0 0) (.slice none 0 0) pb 0 from ⟨_, sb, 0, _, [], 0, 0, 0, 0, zeroSt n, _, [], [], [], HP3.out.below (al_below w3 _), AcI.start n, hw4, Nat.le_refl _, Nat.le_refl _, Nat.le_refl _, Nat.le_refl _, Nat.le_refl _⟩)
  clear HP2 HP3 HB2 HB1 HB3 HS1 hw4
  go_loopw [8, 11, 12, 13] (fun pv vn vp iv wr => ∃ j pb : Nat, j ≤ nA ∧ j ≤ 80 ∧ iv = .int .i64 j ∧ pv = .pointer (some ⟨pb, 0, none⟩) ∧ Hid (AcS w wr (w.heap.size + 1) n w3.heap.size vn vp pb j)) (fun _ _ _ iv _ => nA - (intOf iv).toNat)
  case atStart => exact ⟨0, pb, by omega, by omega, rfl, rfl, HI0⟩
  case round =>
    obtain ⟨j, pb', hjn, hj8, rfl, rfl, HI⟩ := hrel
    by_cases hlt : j < nA ∧ j < 80
    · obtain ⟨hl1, hl2⟩ := hlt
      have i80 : (j : Int) < 80 := by omega
      go_upto_block 1 with fail
      refine wp_block ?_
      refine id (show Code.wp Try.prog (Bd 0) _ _ _ from ?_)
      refine round_any ?_ HI.out HR.out HO.out hl2 hl1 _ _ _ _ _ _ _ _ _ _ _ _ _ _ _ _ _ _ _ _ _ _ _ _ _ _ _ _ _ _ _ _ _ _ _ _ _ _ _ _ _ _ _ _ _ _ _ _ _ _ _ _ _ _ _ _ _ _ _ _ _ _ _ _ _ _ _ _ _ _ _ _ _ _ _ _ _ _ _ _ _ _ _ _ _ _ _ _ _ _ _ _ _ _ _ _ _ _ _ _ _ _ _ _ _ _ _ _ _ _ _ _ _ _ _ _ _ _ _ _ _ _ _ _ _ _ _ _ _ _ _ _ _ _ _ _ _ _ _ _ _ _ _ _ _ _ _ _ _ _ _ _ _ _ _ _ _ _ _ _ _ _ _ _ _ _ _ _ _ _ _ _ _ _ _ _ _ _ _ _ _ _ _ _ _ _ _ _ _ _ _ _ _ _ _ _ _ _ _ _ _ _ _ _ _ _ _ _ _ _ _ _ _ _ _ _ _ _ _ _ _ _ _ _ _ _ _ _ _ _ _ _ _ _ _ _ _ _ _ _ _ _ _ _ _ _ _ _ _ _ _ _ _ _ _ _ _ _ _ _ _ _ _ _ _ _ _ _ _ _ _ _ _
      intro u4 u14 u15 u16 u17 u18 u19 u20 u21 u22 u23 u24 u25 u26 u27 u28 u54 u55 u56 u57 u58 u59 u60 u61 u62 u63 u64 u65 u66 u67 u68 u69 u70 u71 u72 u73 u74 u75 u76 u77 u78 u79 u80 u81 u82 u83 u84 u85 u86 u87 u88 u89 u90 u91 u92 u93 u94 u95 u96 u97 u98 u99 u100 u101 u102 u103 u104 u105 u106 u107 u108 u109 u110 u111 u112 u113 u114 u115 u116 u117 u118 u119 u120 u121 u122 u123 u124 u125 u126 u127 u128 u129 u130 u131 u132 u133 u134 u135 u136 u137 u138 u139 u140 u141 u142 u143 u144 u145 u146 u147 u148 u149 u150 u151 u152 u153 u154 u155 u156 u157 u158 u159 u160 u161 u162 u163 u164 u165 u166 u167 u168 u169 u170 u171 u172 u173 u174 u175 u176 u177 u178 u179 u180 u181 u182 u183 u184 u185 u186 u187 u188 u189 u190 u191 u192 u193 u194 u195 u196 u197 u198 u199 u200 u201 u202 u203 u204 u205 u206 u207 u208 u209 u210 u211 u212 u213 u214 u215 u216 u217 u218 u219 u220 u221 u222 u223 u224 u225 u226 u227 u228 u229 u230 u231 u232 u233 u234 u235 u236 u237 u238 u239 u240 u241 u242 u243 u244 u245 u246 u247 u248 u249 u250 u251 u252 u253 u254 u255 u256 u257 u258 u259 u260 u261 u262 u263 u264 u265 u266 u267 u268 u269 u270 u271 u272 u273 u274 u275 u276 u277 u278 u279 u280 u281 u282 u283 u284 u285 u286 u287 u288 u289 u290 u291 u292 u293 u294 u295 u296 u297 u298 u299 u300 u301 u302 u303 u304 u305 u306 u307 u308 u309 u310 pb2 vn2 vp2 w2 hs
      have HI2 := hide hs
      clear hs
      go_wp2_with fail
      go_roundw
      case rel => exact ⟨j + 1, pb2, by omega, by omega, by go_num, rfl, HI2⟩
      case measure => simp [intOf]; omega
    · obtain ⟨F, sb', left, S, L, N, q, r, frm, st, vs, M, R, P, _, _, hw, _⟩ := HI.out
      have HB := hide hw.below
      clear hw
      by_cases hlt2 : j < nA
      · have i80 : ¬ (j : Int) < 80 := by omega
        go_wp2
        go_ret
        exact ⟨rfl, HB.out⟩
      · go_wp2
        go_ret
        exact ⟨rfl, HB.out⟩
end Go.Proofs.Ytddcmockdomonaa
