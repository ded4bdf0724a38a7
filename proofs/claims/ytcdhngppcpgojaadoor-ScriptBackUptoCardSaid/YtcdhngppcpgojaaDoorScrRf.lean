/- The document's numbers. -/
import Derived.Test.YtcdhngppcpgojaaDoorScrNum
namespace Go.Proofs.YtcdhngppcpgojaaDoor
set_option linter.unusedSimpArgs false
set_option linter.unusedVariables false
open Go.RowKit
def NumP (o : Option Nat) (e : Ending) : Prop := ∃ (N : Int) (ok : Bool), e = .returned (.tuple #[.int .u64 N, .bool ok]) ∧ ok = o.isSome ∧ ∀ n, o = some n → N = (n : Int)
theorem decV_take (x : List UInt8) (k n : Nat) (hk : k < x.length) (h : decV 0 (x.take k) = some n) : decV 0 (x.take (k + 1)) = if isD x[k] = true then some (n * 10 + (x[k].toNat - 48)) else none := by
  rw [List.take_succ_eq_append_getElem hk, decV_append, h, Option.bind_some, decV, decV]
theorem decV_past (x : List UInt8) (k v : Nat) (h : decV 0 x = some v) : ∃ n, decV 0 (x.take k) = some n ∧ n ≤ v := by
  have e : x = x.take k ++ x.drop k := (List.take_append_drop k x).symm
  rw [e, decV_append] at h
  cases hn : decV 0 (x.take k) with
  | none => rw [hn] at h; cases h
  | some n => rw [hn] at h; exact ⟨n, rfl, decV_mono _ _ _ h⟩
theorem numU_stop (x : List UInt8) (k n : Nat) (hk : k < x.length) (h : decV 0 (x.take k) = some n) (hs : isD x[k] = false ∨ 18446744073709551616 ≤ n * 10 + (x[k].toNat - 48)) : numU x = none := by
  cases hu : numU x with
  | none => rfl
  | some v =>
    obtain ⟨h1, h2, _⟩ := (numU_iff x v).1 hu
    obtain ⟨n2, h3, h4⟩ := decV_past x (k + 1) v h1
    rw [decV_take x k n hk h] at h3
    split at h3
    · rename_i hd
      injection h3 with h3
      rcases hs with hs | hs
      · rw [hs] at hd; cases hd
      · omega
    · cases h3
theorem numU_end (x : List UInt8) (n : Nat) (h : decV 0 x = some n) (hn : n < 18446744073709551616) : (numU x).isSome = canon x ∧ ∀ m, numU x = some m → (n : Int) = m := by
  constructor
  · cases hc : canon x with
    | true => rw [(numU_iff x n).2 ⟨h, hn, hc⟩]; rfl
    | false =>
      cases hu : numU x with
      | none => rfl
      | some v => have := ((numU_iff x v).1 hu).2.2; rw [hc] at this; cases this
  · intro m hm
    have := ((numU_iff x m).1 hm).1
    rw [h] at this
    injection this with this
    rw [this]
theorem bdn (w : World) (n : Nat) : Below w.heap.size w (w.drewN n) := ⟨rfl, rfl, rfl, Nat.le_refl _, fun _ _ => rfl⟩
structure NuI (w wr : World) (x : List UInt8) (k n : Nat) : Prop where
  e : wr = w
  d : decV 0 (x.take k) = some n
  b : n < 18446744073709551616
set_option maxRecDepth 100000 in
set_option maxHeartbeats 1000000 in
theorem num_any (x : List UInt8) (w : World) (hl : x.length ≤ 600000000) :
    Calls Tryd.prog 42 #[str x] w fun e w' => NumP (numU x) e ∧ Below w.heap.size w w' := by
  go_enter Tryd.func42, Tryd.ntmps42
  go_wp2_with fail
  go_loopw [4, 5] (fun n i wr => ∃ (k n' : Nat), k ≤ x.length ∧ i = .int .i64 k ∧ n = .int .u64 (n' : Int) ∧ Hid (NuI w wr x k n')) (fun _ i _ => x.length - (intOf i).toNat)
  case atStart => exact ⟨0, 0, by omega, rfl, rfl, hide ⟨rfl, rfl, by omega⟩⟩
  case round =>
    obtain ⟨k, n, hk, rfl, rfl, HI⟩ := hrel
    obtain ⟨rfl, hdv, hn64⟩ := HI.out
    have HDV := hide hdv
    have HN64 := hide hn64
    obtain ⟨ni, hni⟩ : ∃ ni : Int, (n : Int) = ni := ⟨_, rfl⟩
    have hni0 : 0 ≤ ni ∧ ni < 18446744073709551616 := by omega
    have HNI := hide hni
    have HNB := hide hni0
    rw [hni]
    clear HI hdv hn64 hni hni0
    by_cases hlt : k < x.length
    · obtain ⟨c, hc⟩ : ∃ c : Nat, x[k].toNat = c := ⟨_, rfl⟩
      have hc256 : c < 256 := by rw [← hc]; exact x[k].toNat_lt
      have HC := hide hc
      have HC2 := hide hc256
      have hsz : k < (⟨x.toArray⟩ : ByteArray).size := by rw [str_size]; exact hlt
      have hcb : ((⟨x.toArray⟩ : ByteArray)[k]'hsz).toNat = c := hc
      have hltI : (k : Int) < x.length := by omega
      have hw0 : IntKind.u64.wrap (c : Int) = c := by rw [IntKind.wrap_u64]; omega
      have HD : Hid (isD x[k] = (decide (48 ≤ c) && decide (c ≤ 57))) := hide (by unfold isD; rw [hc])
      clear hc hc256
      rcases Nat.lt_or_ge c 48 with h1 | h1
      · have h1i : (c : Int) < 48 := by omega
        have HST := hide (numU_stop x k n hlt HDV.out (.inl (by rw [HD.out]; simp; omega)))
        clear h1
        go_wp2_with fail
        refine bodyPost_ret (v := .tuple #[.int .u64 0, .bool false]) (by simp [results, Tryd.results42, go_sem]) rfl ⟨⟨0, false, rfl, by rw [HST.out]; rfl, fun m hm => by rw [HST.out] at hm; cases hm⟩, Below.refl _ _⟩
      · rcases Nat.lt_or_ge 57 c with h2 | h2
        · have h1i : ¬ (c : Int) < 48 := by omega
          have h2i : (57 : Int) < c := by omega
          have HST := hide (numU_stop x k n hlt HDV.out (.inl (by rw [HD.out]; simp; omega)))
          clear h1 h2
          go_wp2_with fail
          refine bodyPost_ret (v := .tuple #[.int .u64 0, .bool false]) (by simp [results, Tryd.results42, go_sem]) rfl ⟨⟨0, false, rfl, by rw [HST.out]; rfl, fun m hm => by rw [HST.out] at hm; cases hm⟩, Below.refl _ _⟩
        · have h1i : ¬ (c : Int) < 48 := by omega
          have h2i : ¬ (57 : Int) < c := by omega
          obtain ⟨D, hD⟩ : ∃ D : Int, (c : Int) - 48 = D := ⟨_, rfl⟩
          have hD9 : 0 ≤ D ∧ D ≤ 9 := by omega
          have hw1 : IntKind.u64.wrap D = D := by rw [IntKind.wrap_u64]; omega
          obtain ⟨E, hE⟩ : ∃ E : Int, 18446744073709551615 - D = E := ⟨_, rfl⟩
          have hw2 : IntKind.u64.wrap E = E := by rw [IntKind.wrap_u64]; omega
          obtain ⟨R, hR⟩ : ∃ R : Int, E.tdiv 10 = R := ⟨_, rfl⟩
          have hR2 : R = E / 10 := by rw [← hR, Int.tdiv_eq_ediv_of_nonneg (by omega)]
          have hw3 : IntKind.u64.wrap R = R := by rw [IntKind.wrap_u64]; omega
          have HDD := hide (show isD x[k] = true by rw [HD.out]; simp; omega)
          have HCD := hide (show x[k].toNat - 48 = D.toNat by rw [HC.out]; omega)
          have hne := HNI.out
          by_cases hov : R < ni
          · have HST := hide (numU_stop x k n hlt HDV.out (.inr (by rw [HCD.out]; omega)))
            clear hD9 hR2 h1 h2 hne
            go_wp2_with fail
            refine bodyPost_ret (v := .tuple #[.int .u64 0, .bool false]) (by simp [results, Tryd.results42, go_sem]) rfl ⟨⟨0, false, rfl, by rw [HST.out]; rfl, fun m hm => by rw [HST.out] at hm; cases hm⟩, Below.refl _ _⟩
          · have hle : n * 10 + D.toNat < 18446744073709551616 := by omega
            have HLE := hide hle
            have HT := hide (decV_take x k n hlt HDV.out)
            have HFN := hide (show ni * 10 + D = ((n * 10 + D.toNat : Nat) : Int) by omega)
            have hb := HNB.out
            have hw4 : IntKind.u64.wrap (ni * 10) = ni * 10 := by rw [IntKind.wrap_u64]; omega
            have hw5 : IntKind.u64.wrap (ni * 10 + D) = ni * 10 + D := by rw [IntKind.wrap_u64]; omega
            clear hD9 hR2 h1 h2 hne hle hb
            go_wp2_with fail
            go_roundw
            case rel => exact ⟨k + 1, n * 10 + D.toNat, by omega, by go_num, by rw [HFN.out], hide ⟨rfl, by rw [HT.out, if_pos HDD.out, HCD.out], HLE.out⟩⟩
            case measure => simp [intOf]; omega
    · have e : k = x.length := by omega
      have hd := HDV.out
      rw [e, List.take_length] at hd
      have HEN := hide (numU_end x n hd HN64.out)
      have hltI : ¬ (k : Int) < x.length := by omega
      clear hd HDV
      have HFN := hide (show ∀ ok, ok = canon x → NumP (numU x) (.returned (.tuple #[.int .u64 ni, .bool ok])) from fun ok h => ⟨ni, ok, rfl, by rw [HEN.out.1, h], fun m hm => by rw [← HNI.out]; exact HEN.out.2 m hm⟩)
      clear HEN
      go_upto_region 9 with fail
      rcases x with _ | ⟨a, r⟩
      · go_quiet (fail)
        go_wp2_with fail
        refine bodyPost_ret (v := .tuple #[.int .u64 ni, .bool false]) (by simp [results, Tryd.results42, go_sem]) rfl ⟨HFN.out false rfl, bdn _ _⟩
      · by_cases h48 : a = 48
        · subst h48
          rcases r with _ | ⟨b, r⟩
          · go_quiet (fail)
            go_wp2_with fail
            refine bodyPost_ret (v := .tuple #[.int .u64 ni, .bool true]) (by simp [results, Tryd.results42, go_sem]) rfl ⟨HFN.out true rfl, bdn _ _⟩
          · have hpos : (0 : Int) < (r.length : Int) + 1 + 1 := by omega
            have hcb : ((⟨(48 :: b :: r).toArray⟩ : ByteArray)[0]'(by rw [str_size]; simp)).toNat = 48 := rfl
            go_quiet (fail)
            go_wp2_with fail
            refine bodyPost_ret (v := .tuple #[.int .u64 ni, .bool false]) (by simp [results, Tryd.results42, go_sem]) rfl ⟨HFN.out false (by unfold canon; simp), bdn _ _⟩
        · have h1 : (a == 48) = false := by simpa using h48
          have h2 : ¬ (a.toNat : Int) = 48 := fun e => h48 (by have : a.toNat = 48 := by omega
                                                               exact UInt8.toNat_inj.1 this)
          have hcb : ((⟨(a :: r).toArray⟩ : ByteArray)[0]'(by rw [str_size]; simp)).toNat = a.toNat := rfl
          have HC := hide (show true = canon (a :: r) by unfold canon; simp [h48])
          go_quiet (fail)
          go_wp2_with fail
          refine bodyPost_ret (v := .tuple #[.int .u64 ni, .bool true]) (by simp [results, Tryd.results42, go_sem]; exact h2) rfl ⟨HFN.out true HC.out, bdn _ _⟩
end Go.Proofs.YtcdhngppcpgojaaDoor
