/-
  Two neighbours exchanged in memory: rows of writes and of integers.
-/
import Derived.Test.YtneipacdpojjkaaSwap
namespace Go.Proofs.Ytneipacdpojjkaa
open Go.RowKit Go.Proofs WageMem WageDisk

/-- The cells of writes in memory, and their data. -/
theorem writes_rows {w : World} {A : Option Addr} {n c : Nat} {ws : List Wr} (h : Writes w A n c ws) : ∃ vs : List Value, vs.length = n ∧ Sl w 2 A n c (pcells ws vs) ∧
    ∀ (j : Nat) (x : Wr), ws[j]? = some x → (-9223372036854775808 ≤ x.off ∧ x.off ≤ 9223372036854775807) ∧ ∃ A m c, vs[j]? = some (.slice A m c) ∧ Bytes w A m c x.data := by
  rcases Nat.eq_zero_or_pos n with h0 | h0
  · subst h0
    obtain rfl : ws = [] := List.eq_nil_of_length_eq_zero h.1
    exact ⟨[], rfl, ⟨h.2.1, h.2.2.1, rfl, Cells.nil, h.2.2.2.1⟩, fun j x hx => by simp at hx⟩
  · obtain ⟨b, o, e, hc⟩ := h.2.2.2.2 h0
    have hex : ∀ j : Nat, ∃ v : Value, ∀ x, ws[j]? = some x → w.cell? ⟨b, o + j * 2, none⟩ = some (.int .i64 x.off) ∧ w.cell? ⟨b, o + j * 2 + 1, none⟩ = some v ∧ (-9223372036854775808 ≤ x.off ∧ x.off ≤ 9223372036854775807) ∧ ∃ A m c, v = .slice A m c ∧ Bytes w A m c x.data := by
      intro j
      cases hx : ws[j]? with
      | none => exact ⟨.nilFunc, fun x h => by cases h⟩
      | some x =>
        obtain ⟨h1, h2, h3, A', n', c', h4, h5⟩ := hc j x hx
        refine ⟨.slice A' n' c', fun y hy => ?_⟩
        injection hy with hy
        subst hy
        exact ⟨h1, h4, ⟨h2, h3⟩, A', n', c', rfl, h5⟩
    let f : Nat → Value := fun j => Classical.choose (hex j)
    have hf : ∀ j x, ws[j]? = some x → w.cell? ⟨b, o + j * 2, none⟩ = some (.int .i64 x.off) ∧ w.cell? ⟨b, o + j * 2 + 1, none⟩ = some (f j) ∧ (-9223372036854775808 ≤ x.off ∧ x.off ≤ 9223372036854775807) ∧ ∃ A m c, f j = .slice A m c ∧ Bytes w A m c x.data := fun j => Classical.choose_spec (hex j)
    have hv : ∀ j, j < n → ((List.range n).map f)[j]? = some (f j) := fun j hj => by rw [List.getElem?_map, List.getElem?_range hj]; rfl
    have hlen : (pcells ws ((List.range n).map f)).length = n * 2 := by
      unfold pcells
      rw [List.length_flatten]
      have : ∀ (l : List Wr) (m : List Value), l.length = m.length → (List.map List.length (List.zipWith (fun x v => [Value.int .i64 x.off, v]) l m)).sum = l.length * 2 := by
        intro l
        induction l with
        | nil => intro m _; simp
        | cons a l ih =>
          intro m hm
          cases m with
          | nil => simp at hm
          | cons u m =>
            simp only [List.zipWith_cons_cons, List.map_cons, List.sum_cons, List.length_cons] at hm ⊢
            rw [ih m (by omega)]
            simp
            omega
      rw [this _ _ (by rw [List.length_map, List.length_range, h.1]), h.1]
    refine ⟨(List.range n).map f, by simp, ⟨h.2.1, h.2.2.1, hlen, fun _ => ⟨b, o, e, fun k u hu => ?_⟩, h.2.2.2.1⟩, fun j x hx => ?_⟩
    · have hk : k < n * 2 := by have := (List.getElem?_eq_some_iff.1 hu).1; omega
      have hj : k / 2 < n := by omega
      have hx : ws[k / 2]? = some (ws[k / 2]'(by rw [h.1]; exact hj)) := List.getElem?_eq_getElem _
      have hp := pcells_at hx (hv _ hj)
      obtain ⟨h1, h2, _⟩ := hf _ _ hx
      rcases Nat.mod_two_eq_zero_or_one k with hm | hm
      · rw [show k / 2 * 2 = k by omega] at hp h1
        rw [hp.1] at hu
        injection hu with hu
        subst hu
        exact h1
      · rw [show k / 2 * 2 + 1 = k by omega] at hp
        rw [show o + k / 2 * 2 + 1 = o + k by omega] at h2
        rw [hp.2] at hu
        injection hu with hu
        subst hu
        exact h2
    · obtain ⟨_, _, h3, A', m', c', h4, h5⟩ := hf j x hx
      have hj : j < n := by rw [← h.1]; exact (List.getElem?_eq_some_iff.1 hx).1
      exact ⟨h3, A', m', c', by rw [hv j hj, h4], h5⟩

theorem heap_set {w : World} {g : Nat} {cs : Array Value} {t : TypeId} (h : w.heap[g]? = some (.cells cs t (0, 0))) (i : Nat) (u : Value) : (w.setCell ⟨g, i, none⟩ u).heap[g]? = some (.cells (cs.setIfInBounds i u) t (0, 0)) := by
  simp [World.setCell, Array.getElem?_modify, h]

/-- Four stores exchange two neighbouring writes of a row. -/
theorem writes_swap {x : World} {g n cap i : Nat} {cur : Array Value} {ws : List Wr} {vs : List Value} {a b : Wr} {va vb : Value} (hg : x.heap[g]? = some (.cells cur 45 (0, 0))) (hn : n ≤ cap) (hc : cap ≤ maxLen)
    (ht : cur.toList.take (n * 2) = pcells ws vs) (hl : ws.length = n) (hlv : vs.length = n) (ha : ws[i]? = some a) (hb : ws[i + 1]? = some b) (hva : vs[i]? = some va) (hvb : vs[i + 1]? = some vb) (hsz : n * 2 ≤ cur.size)
    {W : World} (hW : W = (((x.setCell ⟨g, i * 2, none⟩ (.int .i64 b.off)).setCell ⟨g, i * 2 + 1, none⟩ vb).setCell ⟨g, (i + 1) * 2, none⟩ (.int .i64 a.off)).setCell ⟨g, (i + 1) * 2 + 1, none⟩ va)
    (hd : ∀ (j : Nat) (y : Wr), ws[j]? = some y → (-9223372036854775808 ≤ y.off ∧ y.off ≤ 9223372036854775807) ∧ ∃ A m c, vs[j]? = some (.slice A m c) ∧ Bytes W A m c y.data) :
    Writes W (some ⟨g, 0, none⟩) n cap (swapAt ws i a b) := by
  have hi : i + 1 < n := by rw [← hl]; exact (List.getElem?_eq_some_iff.1 hb).1
  have hW' : W.heap[g]? = some (.cells ((((cur.setIfInBounds (i * 2) (.int .i64 b.off)).setIfInBounds (i * 2 + 1) vb).setIfInBounds ((i + 1) * 2) (.int .i64 a.off)).setIfInBounds ((i + 1) * 2 + 1) va) 45 (0, 0)) := by
    subst hW
    exact heap_set (heap_set (heap_set (heap_set hg _ _) _ _) _ _) _ _
  have old : ∀ k, k < n * 2 → cur[k]? = (pcells ws vs)[k]? := fun k hk => by
    rw [← ht, List.getElem?_take, if_pos hk, Array.getElem?_toList]
  refine ⟨by rw [swapAt_len, hl], hn, hc, (fun h => by cases h), fun _ => ⟨g, 0, rfl, fun j y hy => ?_⟩⟩
  have hj : j < n := by rw [← hl, ← swapAt_len ws i a b]; exact (List.getElem?_eq_some_iff.1 hy).1
  rw [swapAt_get (by rw [hl]; exact hi)] at hy
  rw [blk_cell hW', blk_cell hW']
  by_cases h1 : j = i
  · subst h1
    rw [if_pos rfl] at hy
    injection hy with hy
    subst hy
    obtain ⟨h3, A', m', c', h4, h5⟩ := hd _ _ hb
    rw [hvb] at h4
    injection h4 with h4
    subst h4
    refine ⟨?_, h3.1, h3.2, A', m', c', ?_, h5⟩
    · simp only [Array.getElem?_setIfInBounds, Array.size_setIfInBounds]
      rw [if_neg (by omega), if_neg (by omega), if_neg (by omega), if_pos (by omega), if_pos (by omega)]
    · simp only [Array.getElem?_setIfInBounds, Array.size_setIfInBounds]
      rw [if_neg (by omega), if_neg (by omega), if_pos (by omega), if_pos (by omega)]
  · rw [if_neg h1] at hy
    by_cases h2 : j = i + 1
    · subst h2
      rw [if_pos rfl] at hy
      injection hy with hy
      subst hy
      obtain ⟨h3, A', m', c', h4, h5⟩ := hd _ _ ha
      rw [hva] at h4
      injection h4 with h4
      subst h4
      refine ⟨?_, h3.1, h3.2, A', m', c', ?_, h5⟩
      · simp only [Array.getElem?_setIfInBounds, Array.size_setIfInBounds]
        rw [if_neg (by omega), if_pos (by omega), if_pos (by omega)]
      · simp only [Array.getElem?_setIfInBounds, Array.size_setIfInBounds]
        rw [if_pos (by omega), if_pos (by omega)]
    · rw [if_neg h2] at hy
      obtain ⟨h3, A', m', c', h4, h5⟩ := hd _ _ hy
      have hp := pcells_at hy h4
      refine ⟨?_, h3.1, h3.2, A', m', c', ?_, h5⟩
      · simp only [Array.getElem?_setIfInBounds]
        rw [if_neg (by omega), if_neg (by omega), if_neg (by omega), if_neg (by omega), old _ (by omega)]
        simpa using hp.1
      · simp only [Array.getElem?_setIfInBounds]
        rw [if_neg (by omega), if_neg (by omega), if_neg (by omega), if_neg (by omega), old _ (by omega)]
        simpa using hp.2

/-- Two stores exchange two neighbours of a row of integers. -/
theorem ints_swap {x : World} {g n cap i : Nat} {cur : Array Value} {zs : List Int} {a b : Int} (hg : x.heap[g]? = some (.cells cur 3 (0, 0))) (hn : n ≤ cap) (hc : cap ≤ maxLen)
    (ht : cur.toList.take n = zs.map iv) (hl : zs.length = n) (hi : i + 1 < n) (hsz : n ≤ cur.size)
    {W : World} (hW : W = (x.setCell ⟨g, i, none⟩ (.int .i64 b)).setCell ⟨g, i + 1, none⟩ (.int .i64 a)) :
    Ints W (some ⟨g, 0, none⟩) n cap (swapAt zs i a b) := by
  have hW' : W.heap[g]? = some (.cells ((cur.setIfInBounds i (.int .i64 b)).setIfInBounds (i + 1) (.int .i64 a)) 3 (0, 0)) := by
    subst hW
    exact heap_set (heap_set hg _ _) _ _
  refine ⟨by rw [swapAt_len, hl], hn, hc, by rw [List.length_map, swapAt_len, hl, Nat.mul_one], fun _ => ⟨g, 0, rfl, fun j u hu => ?_⟩, fun h => by cases h⟩
  rw [List.getElem?_map, swapAt_get (by rw [hl]; exact hi)] at hu
  rw [blk_cell hW', Nat.zero_add]
  simp only [Array.getElem?_setIfInBounds, Array.size_setIfInBounds]
  by_cases h1 : j = i
  · subst h1
    rw [if_pos rfl] at hu
    rw [if_neg (by omega), if_pos rfl, if_pos (by omega)]
    exact hu
  · rw [if_neg h1] at hu
    by_cases h2 : j = i + 1
    · subst h2
      rw [if_pos rfl] at hu
      rw [if_pos rfl, if_pos (by omega)]
      exact hu
    · rw [if_neg h2] at hu
      have hj : j < n := by
        rw [← hl]
        cases hz : zs[j]? with
        | none => rw [hz] at hu; cases hu
        | some z => exact (List.getElem?_eq_some_iff.1 hz).1
      rw [if_neg (by omega), if_neg (by omega), ← Array.getElem?_toList]
      rw [← List.getElem?_map, ← ht, List.getElem?_take, if_pos hj] at hu
      exact hu
end Go.Proofs.Ytneipacdpojjkaa
