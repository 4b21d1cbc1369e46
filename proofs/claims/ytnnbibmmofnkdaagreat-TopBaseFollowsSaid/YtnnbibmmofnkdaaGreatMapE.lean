/-
  m[k] = append(m[k], x): the entry, and what is stored into it.
-/
import Derived.Test.YtnnbibmmofnkdaaGreatRosB
import Derived.WideKeyEntry
namespace WageMap
open Go Go.RowKit WageMem
open Go.ChangeMaps (setBlock)
section
variable {κ β : Type} [DecidableEq κ] {P : Program} {kt et t : TypeId} {ek : κ → Value} {ev : β → Value} {w : World} {b : Nat} {m : List (κ × β)}
theorem MapIs.entry (h : MapIs ek ev w b m) (K : KeyOk P kt ek) (ht : P.underlying t = some (.map kt et)) {z : Value} (hz : ∀ u, (zeroValue et).run P u = .ok z u) (a : κ) :
  ∃ (st : Nat) (w1 : World), (Instr.mapEntry t (.map (some b)) (ek a)).run P w = .ok (.tuple #[((alFind a m).map ev).getD z, goInt st]) w1 ∧ w.grownBy w1 (some b) ∧
   ∀ (w2 : World) (v : β), w2.heap[b]? = w1.heap[b]? → ∃ w3, (Instr.entryStore t (.map (some b)) (goInt st) (ev v)).run P w2 = .ok () w3 ∧ MapIs ek ev w3 b (alPut a v m) ∧ w2.grownBy w3 (some b) := by
 obtain ⟨es, clock, hb, hm, hn, hc⟩ := h
 simp only [Instr.mapEntry, getObj, Sem.run_bind, Sem.run, run_underlying ht, hb, Result.andThen, K.check, K.find a (m.map Prod.fst) es.toList w (keys_of hm)]
 rcases alIdx_spec a m with ⟨h1, h2, h3⟩ | ⟨i, v0, h1, h2, h3, h4⟩
 ·refine ⟨clock, setBlock w b (.map (es.push ⟨ek a, z, clock⟩) (clock + 1)), ?_, grownBy_setBlock w b _, fun w2 v hw2 => ?_⟩
  ·have hz' := hz w
   simp [h1, h2, setObj, Sem.run, hb, hz', setBlock]
  ·rw [setBlock_get hb] at hw2
   have hidx : (es.push ⟨ek a, z, clock⟩).findIdx? (fun e => ((e.born : Nat) : Int) == ((clock : Nat) : Int)) = some es.size := by
    rw [WideElems.findIdx_arr]
    have := WideElems.findIdx_born (l := (es.push ⟨ek a, z, clock⟩).toList) (j := es.size) (e0 := ⟨ek a, z, clock⟩) (by
     simp only [Array.toList_push, List.map_append, List.map_cons, List.map_nil]
     refine List.nodup_append.2 ⟨hn, by simp, fun x hx y hy e1 => ?_⟩
     simp only [List.mem_singleton] at hy
     obtain ⟨e, he, rfl⟩ := List.mem_map.1 hx
     have := hc e he
     omega) (by simp)
    exact this
   have hmod : (es.push ⟨ek a, z, clock⟩).modify es.size (fun e => { e with val := ev v }) = es.push ⟨ek a, ev v, clock⟩ := by
    apply Array.ext'
    rw [Array.toList_modify, Array.toList_push, Array.toList_push, ← Array.length_toList, WideElems.modify_last]
   refine ⟨setBlock w2 b (.map (es.push ⟨ek a, ev v, clock⟩) (clock + 1)), ?_, ⟨_, _, setBlock_get hw2, ?_, ?_, ?_⟩, grownBy_setBlock w2 b _⟩
   ·simp [Instr.entryStore, getObj, Sem.run, hw2, asInt, asIntOf, goInt, hidx, hmod, setObj, Result.andThen, setBlock]
   ·rw [h3]; simp [hm]
   ·simp only [Array.toList_push, List.map_append, List.map_cons, List.map_nil]
    rw [List.nodup_append]
    refine ⟨hn, by simp, fun x hx y hy => ?_⟩
    simp at hy
    subst hy
    obtain ⟨e, he, rfl⟩ := List.mem_map.1 hx
    have := hc e he
    omega
   ·intro e he
    simp only [Array.toList_push, List.mem_append, List.mem_cons, List.not_mem_nil, or_false] at he
    rcases he with he | rfl
    ·have := hc e he; omega
    ·exact Nat.lt_succ_self _
 ·obtain ⟨e, he, hk, hv⟩ := val_of hm h2
  have he' : es[i]? = some e := by simpa using he
  obtain ⟨es1, hes1⟩ : ∃ x, x = es.modify i fun e => { e with key := ek a } := ⟨_, rfl⟩
  have hb1 : es1.toList.map (·.born) = es.toList.map (·.born) := by
   rw [hes1]
   simp only [Array.toList_modify]
   apply List.ext_getElem?
   intro j
   simp only [List.getElem?_map, List.getElem?_modify]
   cases es.toList[j]? with
   | none => rfl
   | some x => by_cases hj : i = j <;> simp [hj]
  have hi1 : es1.toList[i]? = some { e with key := ek a } := by
   rw [hes1]
   simp [Array.toList_modify, he']
  refine ⟨e.born, setBlock w b (.map es1 clock), ?_, grownBy_setBlock w b _, fun w2 v hw2 => ?_⟩
  ·simp [h1, h3, he', hk, hv, Instr.keyThatStays, K.bits, setObj, Sem.run, hb, setBlock, hes1]
  ·rw [setBlock_get hb] at hw2
   have hidx : es1.findIdx? (fun x => ((x.born : Nat) : Int) == ((e.born : Nat) : Int)) = some i := by
    rw [WideElems.findIdx_arr]
    exact WideElems.findIdx_born (e0 := { e with key := ek a }) (by rw [hb1]; exact hn) hi1
   refine ⟨setBlock w2 b (.map (es1.modify i fun e => { e with val := ev v }) clock), ?_, ⟨_, _, setBlock_get hw2, ?_, ?_, ?_⟩, grownBy_setBlock w2 b _⟩
   ·simp [Instr.entryStore, getObj, Sem.run, hw2, asInt, asIntOf, goInt, hidx, setObj, Result.andThen, setBlock]
   ·rw [h4, List.map_set, ← hm, hes1]
    simp only [Array.toList_modify]
    apply List.ext_getElem?
    intro j
    simp only [List.getElem?_map, List.getElem?_modify, List.getElem?_set]
    by_cases hj : i = j
    ·subst hj
     simp [he']
     have := (Array.getElem?_eq_some_iff.1 he').1
     simp [this]
    ·simp [hj]
   ·have : (es1.modify i fun e => { e with val := ev v }).toList.map (·.born) = es1.toList.map (·.born) := by
     simp only [Array.toList_modify]
     apply List.ext_getElem?
     intro j
     simp only [List.getElem?_map, List.getElem?_modify]
     cases es1.toList[j]? with
     | none => rfl
     | some x => by_cases hj : i = j <;> simp [hj]
    rw [this, hb1]; exact hn
   ·intro x hx
    simp only [Array.toList_modify] at hx
    have hx2 : x.born ∈ es.toList.map (·.born) := by
     rw [← hb1]
     obtain ⟨j, hj⟩ := List.mem_iff_getElem?.1 hx
     rw [List.getElem?_modify] at hj
     cases hy : es1.toList[j]? with
     | none => rw [hy] at hj; simp at hj
     | some y =>
      rw [hy] at hj
      refine List.mem_map.2 ⟨y, List.mem_of_getElem? hy, ?_⟩
      by_cases hij : i = j
      ·simp [hij] at hj; rw [← hj]
      ·simp [hij] at hj; rw [← hj]
    obtain ⟨y, hy, hye⟩ := List.mem_map.1 hx2
    rw [← hye]
    exact hc y hy
end
end WageMap
