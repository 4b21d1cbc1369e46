/-
  Maps that a call makes: association lists in the order of laying; lookup, store, range.
-/
import Derived.Test.YtaocjobbfcfleaaMem
import Derived.Maps.RangeRun
import Derived.MapKept
namespace WageMap
open Go Go.RowKit WageMem
open Go.ChangeMaps (setBlock)

section plain
variable {κ β : Type} [DecidableEq κ]
/-- What lies under a key. -/
def alFind (a : κ) : List (κ × β) → Option β
  | [] => none
  | p :: m => if a = p.1 then some p.2 else alFind a m
/-- A value is laid under a key: in its place, or behind all. -/
def alPut (a : κ) (v : β) : List (κ × β) → List (κ × β)
  | [] => [(a, v)]
  | p :: m => if a = p.1 then (a, v) :: m else p :: alPut a v m
theorem alFind_put_self (a : κ) (v : β) : ∀ m, alFind a (alPut a v m) = some v
  | [] => by simp [alPut, alFind]
  | p :: m => by
    unfold alPut
    split
    · simp [alFind]
    · rename_i h; simp only [alFind, if_neg h]; exact alFind_put_self a v m
theorem alFind_put_ne {a b : κ} (v : β) (h : b ≠ a) : ∀ m, alFind b (alPut a v m) = alFind b m
  | [] => by simp [alPut, alFind, h]
  | p :: m => by
    unfold alPut
    split
    · rename_i h1; subst h1; simp [alFind, h]
    · simp only [alFind]; split
      · rfl
      · exact alFind_put_ne v h m
theorem alPut_mem {a : κ} {v : β} {q : κ × β} : ∀ {m : List (κ × β)}, q ∈ alPut a v m → q = (a, v) ∨ q ∈ m
  | [], h => by simp [alPut] at h; exact .inl h
  | p :: m, h => by
    unfold alPut at h
    split at h
    · rcases List.mem_cons.1 h with h | h
      · exact .inl h
      · exact .inr (List.mem_cons_of_mem _ h)
    · rcases List.mem_cons.1 h with h | h
      · exact .inr (h ▸ List.mem_cons_self)
      · rcases alPut_mem h with h | h
        · exact .inl h
        · exact .inr (List.mem_cons_of_mem _ h)
def Keys (m : List (κ × β)) : Prop := (m.map Prod.fst).Nodup
theorem alPut_keys (a : κ) (v : β) : ∀ m : List (κ × β), (alPut a v m).map Prod.fst = if a ∈ m.map Prod.fst then m.map Prod.fst else m.map Prod.fst ++ [a]
  | [] => by simp [alPut]
  | p :: m => by
    unfold alPut
    by_cases h : a = p.1
    · rw [if_pos h]; simp [h]
    · rw [if_neg h]
      simp only [List.map_cons, alPut_keys a v m, List.mem_cons, h, false_or]
      split <;> rfl
theorem Keys.put {m : List (κ × β)} (h : Keys m) (a : κ) (v : β) : Keys (alPut a v m) := by
  unfold Keys at *
  rw [alPut_keys]
  split
  · exact h
  · rename_i hn
    rw [List.nodup_append]
    exact ⟨h, by simp, fun x hx y hy => by simp at hy; subst hy; intro e; subst e; exact hn hx⟩
omit [DecidableEq κ] in
theorem Keys.nil : Keys ([] : List (κ × β)) := List.nodup_nil
theorem alFind_mem {a : κ} {v : β} : ∀ {m : List (κ × β)}, alFind a m = some v → (a, v) ∈ m
  | p :: m, h => by
    unfold alFind at h
    split at h
    · rename_i h1; injection h with h; subst h1 h; exact List.mem_cons_self
    · exact List.mem_cons_of_mem _ (alFind_mem h)
theorem mem_alFind {a : κ} {v : β} : ∀ {m : List (κ × β)}, Keys m → (a, v) ∈ m → alFind a m = some v
  | p :: m, hk, h => by
    unfold Keys at hk
    simp only [List.map_cons, List.nodup_cons] at hk
    rcases List.mem_cons.1 h with rfl | h
    · simp [alFind]
    · have hne : a ≠ p.1 := fun e => hk.1 (e ▸ List.mem_map.2 ⟨_, h, rfl⟩)
      simp only [alFind, if_neg hne]
      exact mem_alFind hk.2 h
theorem alFind_none {a : κ} : ∀ {m : List (κ × β)}, alFind a m = none ↔ a ∉ m.map Prod.fst
  | [] => by simp [alFind]
  | p :: m => by
    unfold alFind
    by_cases h : a = p.1
    · simp [h]
    · simp [h, alFind_none (m := m)]
theorem alPut_length (a : κ) (v : β) : ∀ m : List (κ × β), (alPut a v m).length ≤ m.length + 1
  | [] => by simp [alPut]
  | p :: m => by
    unfold alPut
    split
    · simp
    · have := alPut_length a v m; simp; omega
/-- The place of a key. -/
def alIdx (a : κ) : List κ → Nat → Option Nat
  | [], _ => none
  | k :: ks, i => if a = k then some i else alIdx a ks (i + 1)
theorem alIdx_shift (a : κ) : ∀ (ks : List κ) (i : Nat), alIdx a ks (i + 1) = (alIdx a ks i).map (· + 1)
  | [], _ => rfl
  | k :: ks, i => by
    unfold alIdx
    split
    · rfl
    · exact alIdx_shift a ks (i + 1)
theorem alIdx_spec (a : κ) : ∀ (m : List (κ × β)), (alIdx a (m.map Prod.fst) 0 = none ∧ alFind a m = none ∧ (∀ v, alPut a v m = m ++ [(a, v)])) ∨
    ∃ i v0, alIdx a (m.map Prod.fst) 0 = some i ∧ m[i]? = some (a, v0) ∧ alFind a m = some v0 ∧ ∀ v, alPut a v m = m.set i (a, v)
  | [] => .inl ⟨rfl, rfl, fun _ => rfl⟩
  | p :: m => by
    by_cases h : a = p.1
    · refine .inr ⟨0, p.2, by simp [alIdx, h], by simp [h], by simp [alFind, h], fun v => by simp [alPut, h]⟩
    · rcases alIdx_spec a m with ⟨h1, h2, h3⟩ | ⟨i, v0, h1, h2, h3, h4⟩
      · refine .inl ⟨?_, by simp [alFind, h, h2], fun v => by simp [alPut, h, h3]⟩
        simp only [List.map_cons, alIdx, if_neg h, Nat.zero_add]
        rw [show (1 : Nat) = 0 + 1 from rfl, alIdx_shift, h1]; rfl
      · refine .inr ⟨i + 1, v0, ?_, by simpa using h2, by simp [alFind, h, h3], fun v => by simp [alPut, h, h4]⟩
        simp only [List.map_cons, alIdx, if_neg h, Nat.zero_add]
        rw [show (1 : Nat) = 0 + 1 from rfl, alIdx_shift, h1]; rfl
end plain

section
variable {κ β : Type} [DecidableEq κ] {P : Program} {w : World}

/-- How the keys of a map are found. -/
structure KeyOk (P : Program) (kt : TypeId) (ek : κ → Value) : Prop where
  check : ∀ (e : Bool) (a : κ) (w : World), (Instr.checkKey e 10000 kt (ek a)).run P w = .ok () w
  find : ∀ (a : κ) (ks : List κ) (l : List MapEntry) (w : World), l.map (·.key) = ks.map ek →
    (Instr.findKey kt (ek a) l).run P w = .ok ((alIdx a ks 0).map fun i => (i, ((l[i]?).map (·.val)).getD undef)) w
  bits : ∀ a : κ, Instr.sameBits 10000 (ek a) (ek a) = true

theorem findNow_ok {d : TypeDesc} {ek : κ → Value} (hs : ∀ a b, Instr.sameNow d (ek a) (ek b) = some (decide (a = b))) (a : κ) :
    ∀ (ks : List κ) (l : List MapEntry) (i : Nat), l.map (·.key) = ks.map ek → Instr.findNow d (ek a) l i = some ((alIdx a ks 0).map fun j => (j + i, ((l[j]?).map (·.val)).getD undef))
  | [], l, i, h => by
    have : l = [] := by simpa using h
    subst this; rfl
  | k :: ks, [], i, h => by simp at h
  | k :: ks, x :: l, i, h => by
    simp only [List.map_cons, List.cons.injEq] at h
    obtain ⟨h1, h2⟩ := h
    unfold Instr.findNow
    rw [h1, hs]
    by_cases hk : a = k
    · subst hk; simp [alIdx]
    · simp only [hk, decide_false, alIdx, if_false, Nat.zero_add]
      rw [findNow_ok hs a ks l (i + 1) h2, show (1 : Nat) = 0 + 1 from rfl, alIdx_shift, Option.map_map]
      congr 1
      congr 1
      funext j
      simp [Nat.add_comm, Nat.add_left_comm]

theorem KeyOk.now {kt : TypeId} {d : TypeDesc} {ek : κ → Value} (hd : P.underlying kt = some d) (hs : ∀ a b, Instr.sameNow d (ek a) (ek b) = some (decide (a = b)))
    (hc : ∀ (e : Bool) (a : κ) (w : World), (Instr.checkKey e 10000 kt (ek a)).run P w = .ok () w) (hb : ∀ a : κ, Instr.sameBits 10000 (ek a) (ek a) = true) : KeyOk P kt ek where
  check := hc
  bits := hb
  find := fun a ks l w h => by
    unfold Instr.findKey
    simp only [Sem.run_bind, run_underlying hd, Result.andThen, findNow_ok hs a ks l 0 h, Nat.add_zero]
    rfl

theorem int_key {kt : TypeId} (h : P.underlying kt = some (.int .i64)) : KeyOk P kt (fun n : Int => Value.int .i64 n) := by
  refine KeyOk.now h (fun a b => ?_) (fun e a w => ?_) (fun a => ?_)
  · simp only [Instr.sameNow, if_true, Option.some.injEq]
    rw [Bool.eq_iff_iff, beq_iff_eq, decide_eq_true_iff]
  · unfold Instr.checkKey
    simp only [Sem.run_bind, run_underlying h, Result.andThen]
    rfl
  · simp [Instr.sameBits]
theorem string_key {kt : TypeId} (h : P.underlying kt = some .string) : KeyOk P kt (fun n : ByteArray => Value.string n) := by
  refine KeyOk.now h (fun a b => ?_) (fun e a w => ?_) (fun a => ?_)
  · simp only [Instr.sameNow, Option.some.injEq]
    rw [Bool.eq_iff_iff, Go.MapKept.bytes_beq, decide_eq_true_iff]
  · unfold Instr.checkKey
    simp only [Sem.run_bind, run_underlying h, Result.andThen]
    rfl
  · show (a == a) = true
    exact (Go.MapKept.bytes_beq a a).2 rfl
end

section
variable {κ β : Type} {P : Program} {w : World}

/-- Block b is a map that holds m. -/
def MapIs (ek : κ → Value) (ev : β → Value) (w : World) (b : Nat) (m : List (κ × β)) : Prop :=
  ∃ es clock, w.heap[b]? = some (.map es clock) ∧ es.toList.map (fun e => (e.key, e.val)) = m.map (fun p => (ek p.1, ev p.2)) ∧ (es.toList.map (·.born)).Nodup ∧ ∀ e ∈ es.toList, e.born < clock

variable {kt et t : TypeId} {ek : κ → Value} {ev : β → Value} {b : Nat} {m : List (κ × β)}
theorem MapIs.made (w : World) : MapIs ek ev (w.alloc (.map #[] 0)) w.heap.size [] := ⟨#[], 0, heap_alloc_new w _, rfl, by simp, by simp⟩
theorem MapIs.lt (h : MapIs ek ev w b m) : b < w.heap.size := by
  obtain ⟨es, clock, hb, _⟩ := h
  exact (Array.getElem?_eq_some_iff.1 hb).1
theorem MapIs.same {w' : World} (h : MapIs ek ev w b m) (hb : w'.heap[b]? = w.heap[b]?) : MapIs ek ev w' b m := by
  obtain ⟨es, clock, h1, h2⟩ := h
  exact ⟨es, clock, hb.trans h1, h2⟩
theorem MapIs.grew {w' : World} (h : MapIs ek ev w b m) (g : Grew w w') : MapIs ek ev w' b m := h.same (Below.block g b h.lt)
theorem MapIs.kept {w' : World} {row : Option Nat} (h : MapIs ek ev w b m) (g : w.grownBy w' row) (hne : some b ≠ row) : MapIs ek ev w' b m := h.same (g.block b h.lt hne)

theorem keys_of {l : List MapEntry} (h : l.map (fun e => (e.key, e.val)) = m.map (fun p => (ek p.1, ev p.2))) : l.map (·.key) = (m.map Prod.fst).map ek := by
  have := congrArg (List.map Prod.fst) h
  simpa [List.map_map, Function.comp_def] using this
theorem val_of {l : List MapEntry} (h : l.map (fun e => (e.key, e.val)) = m.map (fun p => (ek p.1, ev p.2))) {i : Nat} {p : κ × β} (hp : m[i]? = some p) : ∃ e, l[i]? = some e ∧ e.key = ek p.1 ∧ e.val = ev p.2 := by
  have := congrArg (·[i]?) h
  simp only [List.getElem?_map, hp, Option.map_some] at this
  cases he : l[i]? with
  | none => rw [he] at this; cases this
  | some e => rw [he] at this; injection this with this; injection this with h1 h2; exact ⟨e, rfl, h1, h2⟩

variable [DecidableEq κ]
theorem MapIs.lookup (h : MapIs ek ev w b m) (K : KeyOk P kt ek) (ht : P.underlying t = some (.map kt et)) {z : Value} (hz : (zeroValue et).run P w = .ok z w) (a : κ) (c : Bool) :
    (Instr.lookup t (.map (some b)) (ek a) c).run P w = .ok (if c then .tuple #[((alFind a m).map ev).getD z, .bool (alFind a m).isSome] else ((alFind a m).map ev).getD z) w := by
  obtain ⟨es, clock, hb, hm, _, _⟩ := h
  simp only [Instr.lookup, getObj, Sem.run_bind, Sem.run, run_underlying ht, hb, Result.andThen, Sem.run_pure, K.check, K.find a (m.map Prod.fst) es.toList w (keys_of hm)]
  rcases alIdx_spec a m with ⟨h1, h2, _⟩ | ⟨i, v0, h1, h2, h3, _⟩
  · simp [h1, h2, hz]
  · obtain ⟨e, he, _, hv⟩ := val_of hm h2
    simp [h1, h3]
    have he' : es[i]? = some e := by simpa using he
    simp [he', hv]

omit [DecidableEq κ] in
theorem grownBy_setBlock (w : World) (b : Nat) (o' : Obj) : w.grownBy (setBlock w b o') (some b) :=
  ⟨rfl, rfl, rfl, by simp [setBlock], fun k _ hk => by
    unfold setBlock
    simp only
    exact Array.getElem?_setIfInBounds_ne (fun e => hk (by rw [e]))⟩
omit [DecidableEq κ] in
theorem setBlock_get {o o' : Obj} (hb : w.heap[b]? = some o) : (setBlock w b o').heap[b]? = some o' := by
  have hlt := (Array.getElem?_eq_some_iff.1 hb).1
  simp [setBlock, hlt]

theorem MapIs.update (h : MapIs ek ev w b m) (K : KeyOk P kt ek) (ht : P.underlying t = some (.map kt et)) (a : κ) (v : β) :
    ∃ w', (Instr.mapUpdate t (.map (some b)) (ek a) (ev v)).run P w = .ok () w' ∧ MapIs ek ev w' b (alPut a v m) ∧ w.grownBy w' (some b) := by
  obtain ⟨es, clock, hb, hm, hn, hc⟩ := h
  simp only [Instr.mapUpdate, getObj, Sem.run_bind, Sem.run, run_underlying ht, hb, Result.andThen, K.check, K.find a (m.map Prod.fst) es.toList w (keys_of hm)]
  rcases alIdx_spec a m with ⟨h1, h2, h3⟩ | ⟨i, v0, h1, h2, h3, h4⟩
  · refine ⟨setBlock w b (.map (es.push ⟨ek a, ev v, clock⟩) (clock + 1)), ?_, ⟨_, _, setBlock_get hb, ?_, ?_, ?_⟩, grownBy_setBlock w b _⟩
    · simp [h1, setObj, Sem.run, hb, setBlock]
    · rw [h3]; simp [hm]
    · simp only [Array.toList_push, List.map_append, List.map_cons, List.map_nil]
      rw [List.nodup_append]
      refine ⟨hn, by simp, fun x hx y hy => ?_⟩
      simp at hy
      subst hy
      obtain ⟨e, he, rfl⟩ := List.mem_map.1 hx
      have := hc e he
      omega
    · intro e he
      simp only [Array.toList_push, List.mem_append, List.mem_cons, List.not_mem_nil, or_false] at he
      rcases he with he | rfl
      · have := hc e he; omega
      · exact Nat.lt_succ_self _
  · obtain ⟨e, he, hk, hv⟩ := val_of hm h2
    have he' : es[i]? = some e := by simpa using he
    refine ⟨setBlock w b (.map (es.modify i fun e => { e with key := ek a, val := ev v }) clock), ?_, ⟨_, _, setBlock_get hb, ?_, ?_, ?_⟩, grownBy_setBlock w b _⟩
    · simp [h1, he', hk, Instr.keyThatStays, K.bits, setObj, Sem.run, hb, setBlock]
    · rw [h4, List.map_set, ← hm]
      simp only [Array.toList_modify]
      apply List.ext_getElem?
      intro j
      simp only [List.getElem?_map, List.getElem?_modify, List.getElem?_set]
      by_cases hj : i = j
      · subst hj
        simp [he']
        have := (Array.getElem?_eq_some_iff.1 he').1
        simp [this]
      · simp [hj]
    · have : (es.modify i fun e => { e with key := ek a, val := ev v }).toList.map (·.born) = es.toList.map (·.born) := by
        simp only [Array.toList_modify]
        apply List.ext_getElem?
        intro j
        simp only [List.getElem?_map, List.getElem?_modify]
        cases es.toList[j]? with
        | none => rfl
        | some x => by_cases hj : i = j <;> simp [hj]
      rw [this]; exact hn
    · intro x hx
      simp only [Array.toList_modify] at hx
      obtain ⟨j, hj⟩ := List.mem_iff_getElem?.1 hx
      rw [List.getElem?_modify] at hj
      cases hy : es.toList[j]? with
      | none => rw [hy] at hj; simp at hj
      | some y =>
        rw [hy] at hj
        have hyc := hc y (List.mem_of_getElem? hy)
        by_cases hij : i = j
        · simp [hij] at hj; rw [← hj]; exact hyc
        · simp [hij] at hj; rw [← hj]; exact hyc

/-- The iterator in block r over the map in block b has the entries in rest still to come. -/
def IterIs (ek : κ → Value) (ev : β → Value) (w : World) (r b : Nat) (m rest : List (κ × β)) : Prop :=
  ∃ es clock since seen, w.heap[b]? = some (.map es clock) ∧ w.heap[r]? = some (.mapIter (some b) since seen clock) ∧
    es.toList.map (fun e => (e.key, e.val)) = m.map (fun p => (ek p.1, ev p.2)) ∧ (es.toList.map (·.born)).Nodup ∧ (∀ e ∈ es.toList, e.born < clock) ∧
    since = clock ∧ ∃ L : List MapEntry, L.Perm (leftOf es seen).toList ∧ L.map (fun e => (e.key, e.val)) = rest.map (fun p => (ek p.1, ev p.2))
omit [DecidableEq κ] in
theorem IterIs.map {r : Nat} {rest : List (κ × β)} (h : IterIs ek ev w r b m rest) : MapIs ek ev w b m := by
  obtain ⟨es, clock, since, seen, h1, _, h3, h4, h5, _⟩ := h
  exact ⟨es, clock, h1, h3, h4, h5⟩
omit [DecidableEq κ] in
theorem IterIs.lt {r : Nat} {rest : List (κ × β)} (h : IterIs ek ev w r b m rest) : r < w.heap.size ∧ b < w.heap.size ∧ r ≠ b := by
  obtain ⟨es, clock, since, seen, h1, h2, _⟩ := h
  refine ⟨(Array.getElem?_eq_some_iff.1 h2).1, (Array.getElem?_eq_some_iff.1 h1).1, ?_⟩
  rintro rfl
  rw [h1] at h2
  cases h2
omit [DecidableEq κ] in
theorem IterIs.same {w' : World} {r : Nat} {rest : List (κ × β)} (h : IterIs ek ev w r b m rest) (hb : w'.heap[b]? = w.heap[b]?) (hr : w'.heap[r]? = w.heap[r]?) : IterIs ek ev w' r b m rest := by
  obtain ⟨es, clock, since, seen, h1, h2, h3⟩ := h
  exact ⟨es, clock, since, seen, hb.trans h1, hr.trans h2, h3⟩
omit [DecidableEq κ] in
theorem IterIs.grew {w' : World} {r : Nat} {rest : List (κ × β)} (h : IterIs ek ev w r b m rest) (g : Grew w w') : IterIs ek ev w' r b m rest :=
  h.same (Below.block g b h.lt.2.1) (Below.block g r h.lt.1)
omit [DecidableEq κ] in
theorem IterIs.kept {w' : World} {row : Option Nat} {r : Nat} {rest : List (κ × β)} (h : IterIs ek ev w r b m rest) (g : w.grownBy w' row) (hb : some b ≠ row) (hr : some r ≠ row) : IterIs ek ev w' r b m rest :=
  h.same (g.block b h.lt.2.1 hb) (g.block r h.lt.1 hr)
omit [DecidableEq κ] in
theorem MapIs.range (h : MapIs ek ev w b m) (ht : P.underlying t = some (.map kt et)) :
    ∃ w', (Instr.range t (.map (some b))).run P w = .ok (.pointer (some ⟨w.heap.size, 0, none⟩)) w' ∧ IterIs ek ev w' w.heap.size b m m ∧ Grew w w' := by
  obtain ⟨es, clock, hb, hm, hn, hc⟩ := h
  have hlt := (Array.getElem?_eq_some_iff.1 hb).1
  refine ⟨w.alloc (.mapIter (some b) clock #[] clock), ?_, ⟨es, clock, clock, #[], ?_, heap_alloc_new w _, hm, hn, hc, rfl, es.toList, ?_, hm⟩, (Grew.refl w).alloc _⟩
  · simp only [Instr.range, getObj, Sem.run_bind, Sem.run, run_underlying ht, hb, newObj, Result.andThen, Sem.run_pure]
    rfl
  · exact (World.grownBy_alloc w _ none).block b hlt (by simp) |>.trans hb
  · have : (leftOf es #[]).toList = es.toList := by unfold leftOf; simp
    rw [this]
theorem erase_born : ∀ {L : List MapEntry} {i : Nat} {e : MapEntry}, (L.map (·.born)).Nodup → L[i]? = some e → L.eraseIdx i = L.filter fun x => x.born != e.born
  | [], i, e, _, h => by simp at h
  | x :: L, 0, e, hn, h => by
    simp at h
    subst h
    simp only [List.map_cons, List.nodup_cons] at hn
    simp only [List.eraseIdx_cons_zero, List.filter_cons, bne_self_eq_false, Bool.false_eq_true, if_false]
    rw [List.filter_eq_self.2]
    intro y hy
    have : y.born ≠ x.born := fun he => hn.1 (he ▸ List.mem_map.2 ⟨y, hy, rfl⟩)
    simpa using this
  | x :: L, i + 1, e, hn, h => by
    simp only [List.map_cons, List.nodup_cons] at hn
    have h' : L[i]? = some e := by simpa using h
    have hne : x.born ≠ e.born := fun he => hn.1 (he ▸ List.mem_map.2 ⟨e, List.mem_of_getElem? h', rfl⟩)
    simp only [List.eraseIdx_cons_succ, List.filter_cons]
    rw [if_pos (by simpa using hne), erase_born hn.2 h']
omit [DecidableEq κ] in
theorem IterIs.next {r : Nat} {rest : List (κ × β)} (h : IterIs ek ev w r b m rest) (ty : TypeId) :
    (rest = [] ∧ (Instr.next (.pointer (some ⟨r, 0, none⟩)) false ty).run P w = .ok (.tuple #[.bool false]) w) ∨
    ∃ (i : Nat) (p : κ × β) (w' : World), rest[i]? = some p ∧ (Instr.next (.pointer (some ⟨r, 0, none⟩)) false ty).run P w = .ok (.tuple #[.bool true, ek p.1, ev p.2]) w' ∧
      IterIs ek ev w' r b m (rest.eraseIdx i) ∧ w.grownBy w' (some r) ∧ (Instr.entry (.pointer (some ⟨r, 0, none⟩))).run P w' = .ok (.tuple #[ek p.1, ev p.2]) w' := by
  have hne := h.lt.2.2
  obtain ⟨es, clock, since, seen, h1, h2, h3, h4, h5, rfl, L, hL, hr⟩ := h
  rcases run_next_at (P := P) w ty r b since since seen es since h2 h1 h5 (Nat.le_refl _) with ⟨h0, hrun⟩ | ⟨e, he, w1, hw1, hrun⟩
  · refine .inl ⟨?_, hrun⟩
    have hl : L = [] := List.eq_nil_of_length_eq_zero (by rw [hL.length_eq]; simpa using h0)
    subst hl
    simpa using hr.symm
  · have hmem : e ∈ L := hL.mem_iff.2 he
    obtain ⟨i, hi⟩ := List.mem_iff_getElem?.1 hmem
    have hp := congrArg (·[i]?) hr
    simp only [List.getElem?_map, hi, Option.map_some] at hp
    cases hpi : rest[i]? with
    | none => rw [hpi] at hp; cases hp
    | some p =>
      rw [hpi] at hp
      simp only [Option.map_some, Option.some.injEq, Prod.mk.injEq] at hp
      have hg0 : w.grownBy w1 (some r) ∧ w1.heap = w.heap := by
        rcases hw1 with rfl | rfl
        · exact ⟨World.grownBy.refl _ _, rfl⟩
        · exact ⟨⟨rfl, rfl, rfl, Nat.le_refl _, fun _ _ _ => rfl⟩, rfl⟩
      have hr1 : w1.heap[r]? = some (.mapIter (some b) since seen since) := by rw [hg0.2]; exact h2
      have hb1 : w1.heap[b]? = some (.map es since) := by rw [hg0.2]; exact h1
      have hset : (setBlock w1 r (.mapIter (some b) since (seen.push e.born) since)).heap[r]? = some (.mapIter (some b) since (seen.push e.born) since) := setBlock_get hr1
      have hbs : (setBlock w1 r (.mapIter (some b) since (seen.push e.born) since)).heap[b]? = some (.map es since) :=
        ((grownBy_setBlock w1 r _).block b (Array.getElem?_eq_some_iff.1 hb1).1 (fun h => hne (by injection h with h; exact h.symm))).trans hb1
      have hee : e ∈ es.toList := by
        have := he; unfold leftOf at this; simp at this ⊢; exact this.1
      refine .inr ⟨i, p, _, hpi, by rw [← hp.1, ← hp.2]; exact hrun, ⟨es, since, since, seen.push e.born, hbs, hset, h3, h4, h5, rfl, L.eraseIdx i, ?_, ?_⟩, ?_, ?_⟩
      · have hLn : (L.map (·.born)).Nodup := (hL.map _).nodup_iff.2 (h4.sublist (List.Sublist.map _ (by unfold leftOf; simp)))
        have hfil : L.eraseIdx i = L.filter fun x => x.born != e.born := erase_born hLn hi
        rw [hfil]
        have hleft : (leftOf es (seen.push e.born)).toList = (leftOf es seen).toList.filter fun x => x.born != e.born := by
          unfold leftOf
          simp only [Array.toList_filter, List.filter_filter]
          apply List.filter_congr
          intro x _
          simp [Bool.and_comm]
          cases h : decide (x.born = e.born) <;> simp_all
        rw [hleft]
        exact hL.filter _
      · rw [Go.ChangeMaps.map_eraseIdx, hr, Go.ChangeMaps.map_eraseIdx]
      · exact ⟨hg0.1.os, hg0.1.tape, hg0.1.output, by simp [setBlock, hg0.2], fun k hk hkr => ((grownBy_setBlock w1 r _).block k (by rw [hg0.2]; exact hk) hkr).trans (by rw [hg0.2])⟩
      · rw [← hp.1, ← hp.2]
        exact run_entry_at _ r b since seen es since e hset hbs hee h4
end
end WageMap
