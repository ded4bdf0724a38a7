/- A map that is ranged over, written in the round at a key that is there. -/
import Derived.Test.YtmbjalcphdggnaaDoorLib
import Derived.Maps.RangeWalk
namespace Go.Proofs.YtmbjalcphdggnaaDoor
set_option linter.unusedSimpArgs false
set_option linter.unusedVariables false
open Go.RowKit Go.ChangeMaps Go.MapKept Go.WideShapes
open Go.WideElems (Fit rd rg pl rd_key rd_val rg_of other_key)
open Go.Maps (Keyed)
section
variable {H : Type} {P : Program} {k : TypeId} {R : Value → Option (DataW H × List MemPlace)} {w : World} {b r n : Nat} {D : DataW H} {left : Lit → Bool} {cnt : Nat}
def kb (x : MapEntry) : Value × Nat := (x.key, x.born)
theorem store_there {t e : TypeId} {es : Array MapEntry} {clock : Nat} (K : Keyed P k) (ht : P.underlying t = some (.map k e)) (hb : w.heap[b]? = some (.map es clock)) (F : Fit P k R es clock) (hroom : es.size < maxLen)
    {key val : Value} {kl : Lit} {yv : DataW H × List MemPlace} (hkey : keyOf P k key = some kl) (hv : R val = some yv) (hth : ∃ x ∈ es.toList, x.key = key) :
    ∃ es', (Instr.mapUpdate t (.map (some b)) key val).run P w = .ok () (setBlock w b (.map es' clock)) ∧ Fit P k R es' clock ∧
      (es'.toList.map (rg P k R)).foldr DataW.insert [] = putKey kl yv.1 ((es.toList.map (rg P k R)).foldr DataW.insert []) ∧ es'.toList.map kb = es.toList.map kb := by
  obtain ⟨es', clock', hrun, F', hput, _⟩ := Maps.fit_store (R' := R) K ht hb F hroom (fun _ _ _ _ hz => hz) hkey hv
  rcases K.find w hkey es.toList F.keys with ⟨h1, h2⟩ | ⟨j, e0, h1, h2, h3⟩
  · obtain ⟨x, hx, hk⟩ := hth
    exact absurd hk (h2 x hx)
  · have hj : es[j]? = some e0 := by simpa using h2
    have hrun2 : (Instr.mapUpdate t (.map (some b)) key val).run P w = .ok () (setBlock w b (.map (es.modify j (fun e' => { e' with key := key, val := val })) clock)) := by
      simp [Instr.mapUpdate, run_underlying ht, MapKept.run_getObj_map hb, K.check w false hkey, h1, hj, h3, K.stays w hkey, MapKept.run_setObj_map _ hb, Result.andThen, setBlock]
    rw [hrun] at hrun2
    injection hrun2 with _ hw
    have hh : (setBlock w b (.map es' clock')).heap[b]? = (setBlock w b (.map (es.modify j (fun e' => { e' with key := key, val := val })) clock)).heap[b]? := by rw [hw]
    rw [heap_setBlock_same hb _, heap_setBlock_same hb _] at hh
    injection hh with hh
    injection hh with e1 e2
    subst e2
    refine ⟨es', hrun, F', hput, ?_⟩
    rw [e1, Array.toList_modify]
    refine List.ext_getElem? (fun i => ?_)
    rw [List.getElem?_map, List.getElem?_map, List.getElem?_modify]
    by_cases hi : j = i
    · subst hi
      rw [h2]
      simp [kb, h3]
    · simp [hi]
theorem left_count (a : Array MapEntry) (seen : Array Nat) : (leftOf a seen).size = ((a.toList.map kb).filter (fun p => !seen.contains p.2)).length := by
  unfold leftOf
  rw [← Array.length_toList, Array.toList_filter, List.filter_map, List.length_map]
  rfl
theorem kb_twin {a a' : Array MapEntry} (h : a'.toList.map kb = a.toList.map kb) {x' : MapEntry} (hx : x' ∈ a'.toList) : ∃ x ∈ a.toList, x.key = x'.key ∧ x.born = x'.born := by
  have : kb x' ∈ a.toList.map kb := h ▸ List.mem_map.2 ⟨x', hx, rfl⟩
  obtain ⟨x, hx, e⟩ := List.mem_map.1 this
  unfold kb at e
  injection e with e1 e2
  exact ⟨x, hx, e1, e2⟩
/-- 'm[k] = v' in the round, at a key that is there. -/
theorem ranges_store {t e : TypeId} (h : w.ranges P k R b r n D left cnt) (K : Keyed P k) (ht : P.underlying t = some (.map k e)) (hn : n < maxLen) {key val : Value} {kl : Lit} {d : DataW H} {ps : List MemPlace}
    (hkey : keyOf P k key = some kl) (hv : R val = some (d, ps)) (hhas : Maps.has D kl = true) :
    ∃ w', (Instr.mapUpdate t (.map (some b)) key val).run P w = .ok () w' ∧ w'.ranges P k R b r n (D.put kl d) left cnt ∧ w.grownBy w' (some b) ∧ w'.heap.size = w.heap.size := by
  have hne := h.ne
  obtain ⟨es, clock, since, seen, c0, hb, F, hs, rfl, hr, hold, rfl, hl1, hl2, hsc, hsk⟩ := h
  have hth : ∃ x ∈ es.toList, x.key = key := by
    obtain ⟨p, hp, hpk⟩ := List.any_eq_true.1 hhas
    obtain ⟨x, hx, rfl⟩ := List.mem_map.1 (mem_sorted.1 hp)
    obtain ⟨y, hy⟩ := F.reads x hx
    have e1 := WideAt.sameKey_eq hpk
    rw [rg_of hy] at e1
    exact ⟨x, hx, K.inj (e1 ▸ rd_key hy) hkey⟩
  obtain ⟨es', hrun, F', hput, hkb⟩ := store_there K ht hb F (Nat.lt_of_le_of_lt hs hn) hkey hv hth
  have hsz : es'.size = es.size := by
    have := congrArg List.length hkb
    simpa using this
  have same : ∀ x ∈ es.toList, ∀ x' ∈ es'.toList, x.key = x'.key → (rg P k R x).1 = (rg P k R x').1 := fun x hx x' hx' e1 => by
    obtain ⟨y, hy⟩ := F.reads x hx
    obtain ⟨y', hy'⟩ := F'.reads x' hx'
    have m1 := rd_key hy
    have m2 := rd_key hy'
    rw [e1, m2] at m1
    rw [rg_of hy, rg_of hy']
    exact (Option.some.inj m1).symm
  refine ⟨_, hrun, ⟨es', clock, since, seen, c0, heap_setBlock_same hb _, F', by omega, by rw [DataW.put_eq, hput], (heap_setBlock_other hb _ hne).trans hr, fun x' hx' => ?_, ?_, fun x' hx' => ?_, fun kl' hkl' => ?_, hsc, hsk⟩, ⟨rfl, rfl, rfl, by simp [setBlock], fun i _ hi => heap_setBlock_other hb _ (fun e => hi (by rw [e]))⟩, by simp [setBlock]⟩
  · obtain ⟨x, hx, _, e2⟩ := kb_twin hkb hx'
    rw [← e2]; exact hold x hx
  · rw [left_count, left_count, hkb]
  · obtain ⟨x, hx, e1, e2⟩ := kb_twin hkb hx'
    rw [← same x hx x' hx' e1, hl1 x hx, e2]
  · obtain ⟨x, hx, e⟩ := hl2 kl' hkl'
    obtain ⟨x', hx', e1, e2⟩ := kb_twin hkb.symm hx
    exact ⟨x', hx', by rw [← same x hx x' hx' e1.symm]; exact e⟩
end
section
variable {H : Type} {P : Program} (w : World) {o : Oper} {a : Act} {K : Act → World → Prop} {Q : Exit → Act → World → Prop}
theorem wp_mapUpdate_ranges (m x v : Operand) (t : TypeId) (hop : o.op = Op.mapUpdate t m x v)
    (k e : TypeId) (Kd : Keyed P k) (ht : P.underlying t = some (.map k e)) (R : Value → Option (DataW H × List MemPlace)) (b r n : Nat) (D : DataW H) (left : Lit → Bool) (cnt : Nat)
    (hm : a.eval m = .map (some b)) (h : w.ranges P k R b r n D left cnt) (hn : n < maxLen) (key val : Value) (kl : Lit) (hx : a.eval x = key) (hv : a.eval v = val) (hkey : keyOf P k key = some kl)
    (d : DataW H) (ps : List MemPlace) (hval : R val = some (d, ps)) (hhas : Maps.has D kl = true)
    (hK : ∀ w', w'.ranges P k R b r n (D.put kl d) left cnt → w.grownBy w' (some b) → w'.heap.size = w.heap.size → K (a.put o.dst undef) w') : o.wp P a w K Q := by
  obtain ⟨w', hrun, r1, r2, r3⟩ := ranges_store h Kd ht hn hkey hval hhas
  unfold Oper.wp
  simp [execOp, hop, hm, hx, hv, hrun, Result.andThen]
  exact hK w' r1 r2 r3
end
end Go.Proofs.YtmbjalcphdggnaaDoor
