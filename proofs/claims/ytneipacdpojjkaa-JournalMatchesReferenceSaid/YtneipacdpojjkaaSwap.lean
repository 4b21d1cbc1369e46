/-
  Two neighbouring writes that cover no common offset can be exchanged: plain laws.
-/
import Derived.Test.YtneipacdpojjkaaTearing
namespace Go.Proofs.Ytneipacdpojjkaa
open Go.RowKit Go.Proofs WageMem WageDisk

theorem over_comm {l xs ys : List UInt8} {o p : Nat} (h1 : o + xs.length ≤ l.length) (h2 : p + ys.length ≤ l.length) (hd : o + xs.length ≤ p ∨ p + ys.length ≤ o) : over (over l o xs) p ys = over (over l p ys) o xs := by
  have l1 := over_length (l := l) (xs := xs) (off := o) h1
  have l2 := over_length (l := l) (xs := ys) (off := p) h2
  apply List.ext_getElem?
  intro k
  by_cases hy : p ≤ k ∧ k < p + ys.length
  · rw [over_in (by omega) hy.1 hy.2, over_out (by omega) (by omega), over_in h2 hy.1 hy.2]
  · rw [over_out (by omega) (by omega)]
    by_cases hx : o ≤ k ∧ k < o + xs.length
    · rw [over_in h1 hx.1 hx.2, over_in (by omega) hx.1 hx.2]
    · rw [over_out h1 (by omega), over_out (by omega) (by omega), over_out h2 (by omega)]

/-- Two neighbours exchanged. -/
def swapAt {α : Type} (l : List α) (i : Nat) (a b : α) : List α := (l.set i b).set (i + 1) a
theorem swapAt_len {α : Type} (l : List α) (i : Nat) (a b : α) : (swapAt l i a b).length = l.length := by unfold swapAt; simp
theorem swapAt_get {α : Type} {l : List α} {i : Nat} {a b : α} (hi : i + 1 < l.length) (j : Nat) : (swapAt l i a b)[j]? = if j = i then some b else if j = i + 1 then some a else l[j]? := by
  unfold swapAt
  rw [List.getElem?_set, List.getElem?_set, List.length_set]
  by_cases h1 : j = i
  · subst h1; rw [if_neg (by omega), if_pos rfl, if_pos (by omega), if_pos rfl]
  · rw [if_neg h1]
    by_cases h2 : j = i + 1
    · subst h2; rw [if_pos rfl, if_pos hi, if_pos rfl]
    · rw [if_neg (by omega), if_neg (by omega), if_neg h2]
theorem split_two {α : Type} {l : List α} {i : Nat} {a b : α} (ha : l[i]? = some a) (hb : l[i + 1]? = some b) : l = l.take i ++ a :: b :: l.drop (i + 2) := by
  obtain ⟨h1, e1⟩ := List.getElem?_eq_some_iff.1 ha
  obtain ⟨h2, e2⟩ := List.getElem?_eq_some_iff.1 hb
  conv => lhs; rw [← List.take_append_drop i l, List.drop_eq_getElem_cons h1, List.drop_eq_getElem_cons h2, e1, e2]
theorem swap_two {α : Type} {l : List α} {i : Nat} {a b : α} (ha : l[i]? = some a) (hb : l[i + 1]? = some b) : swapAt l i a b = l.take i ++ b :: a :: l.drop (i + 2) := by
  obtain ⟨h2, e2⟩ := List.getElem?_eq_some_iff.1 hb
  apply List.ext_getElem?
  intro j
  rw [swapAt_get h2]
  by_cases h : j < i
  · rw [if_neg (by omega), if_neg (by omega), List.getElem?_append_left (by rw [List.length_take]; omega), List.getElem?_take, if_pos h]
  · rw [List.getElem?_append_right (by rw [List.length_take]; omega), List.length_take, Nat.min_eq_left (by omega)]
    by_cases h1 : j = i
    · subst h1; rw [if_pos rfl, Nat.sub_self]; rfl
    · rw [if_neg h1]
      by_cases h3 : j = i + 1
      · subst h3; rw [if_pos rfl, Nat.add_sub_cancel_left]; rfl
      · rw [if_neg h3, show j - i = (j - (i + 2)) + 2 by omega, List.getElem?_cons_succ, List.getElem?_cons_succ, List.getElem?_drop, show i + 2 + (j - (i + 2)) = j by omega]

theorem swap_valid {d : Ds} (hv : validB d = true) {i : Nat} {a b : Wr} (ha : d.pe[i]? = some a) (hb : d.pe[i + 1]? = some b) : validB ⟨d.st, swapAt d.pe i a b⟩ = true := by
  have h2 := valid_size hv
  unfold validB at *
  rw [Bool.and_eq_true] at *
  refine ⟨decide_eq_true ⟨h2.1, by show (swapAt d.pe i a b).length ≤ 64; rw [swapAt_len]; exact h2.2⟩, ?_⟩
  rw [List.all_eq_true] at *
  intro x hx
  refine hv.2 x ?_
  have e := split_two ha hb
  rw [swap_two ha hb] at hx
  rw [e]
  simp only [List.mem_append, List.mem_cons] at hx ⊢
  rcases hx with h | h | h | h
  · exact .inl h
  · exact .inr (.inr (.inl h))
  · exact .inr (.inl h)
  · exact .inr (.inr (.inr h))

/-- What two functions that choose how much is kept say of exchanged writes. -/
theorem swap_apply {d : Ds} (hv : validB d = true) {i : Nat} {a b : Wr} (ha : d.pe[i]? = some a) (hb : d.pe[i + 1]? = some b) (hd : ¬ (a.off < b.off + b.data.length ∧ b.off < a.off + a.data.length))
    {ch ch' : Nat → Nat → Nat} (h1 : ∀ j n, j ≠ i → j ≠ i + 1 → ch' j n = ch j n) (h2 : ∀ n, ch' i n = ch (i + 1) n) (h3 : ∀ n, ch' (i + 1) n = ch i n) (hch : ∀ j n, ch j n ≤ n) :
    applyTo ch' d.st 0 (swapAt d.pe i a b) = applyTo ch d.st 0 d.pe := by
  have va := valid_in hv ha
  have vb := valid_in hv hb
  obtain ⟨hl, _⟩ := List.getElem?_eq_some_iff.1 hb
  rw [swap_two ha hb]
  conv => rhs; rw [split_two ha hb]
  rw [applyTo_append, applyTo_append]
  have e0 : applyTo ch' d.st 0 (d.pe.take i) = applyTo ch d.st 0 (d.pe.take i) := applyTo_congr _ _ _ fun j x hx => by
    have : j < i := by
      have := (List.getElem?_eq_some_iff.1 hx).1
      rw [List.length_take] at this; omega
    exact h1 _ _ (by omega) (by omega)
  have el : 0 + (d.pe.take i).length = i := by rw [List.length_take]; omega
  have hlen : (applyTo ch d.st 0 (d.pe.take i)).length = d.st.length := applyTo_length hch _ _ _ _ rfl (fun x hx => by
    obtain ⟨k, hk⟩ := List.mem_iff_getElem?.1 (List.mem_of_mem_take hx)
    exact valid_in hv hk)
  rw [e0, el]
  simp only [applyTo]
  rw [h2, h3]
  have la := hch i a.data.length
  have lb := hch (i + 1) b.data.length
  have ea : (a.data.take (ch i a.data.length)).length = ch i a.data.length := by rw [List.length_take]; omega
  have eb : (b.data.take (ch (i + 1) b.data.length)).length = ch (i + 1) b.data.length := by rw [List.length_take]; omega
  rw [over_comm (by omega) (by omega) (by omega)]
  exact applyTo_congr _ _ _ fun j x _ => h1 _ _ (by omega) (by omega)

theorem swap_sync {d : Ds} (hv : validB d = true) {i : Nat} {a b : Wr} (ha : d.pe[i]? = some a) (hb : d.pe[i + 1]? = some b) (hd : ¬ (a.off < b.off + b.data.length ∧ b.off < a.off + a.data.length)) :
    syncD ⟨d.st, swapAt d.pe i a b⟩ = ⟨applyTo wholeC d.st 0 d.pe, []⟩ := by
  rw [sync_valid (swap_valid hv ha hb)]
  congr 1
  exact swap_apply hv ha hb hd (fun _ _ _ _ => rfl) (fun _ => rfl) (fun _ => rfl) (fun _ _ => Nat.le_refl _)
theorem swap_crash {d : Ds} (hv : validB d = true) {i : Nat} {a b : Wr} (ha : d.pe[i]? = some a) (hb : d.pe[i + 1]? = some b) (hd : ¬ (a.off < b.off + b.data.length ∧ b.off < a.off + a.data.length))
    {kept : List Int} {x y : Int} (hx : kept[i]? = some x) (hy : kept[i + 1]? = some y) :
    crashD ⟨d.st, swapAt d.pe i a b⟩ (swapAt kept i x y) = ⟨applyTo (keptC kept) d.st 0 d.pe, []⟩ := by
  rw [crash_valid (swap_valid hv ha hb)]
  congr 1
  obtain ⟨hl, _⟩ := List.getElem?_eq_some_iff.1 hy
  refine swap_apply hv ha hb hd (fun j n h1 h2 => ?_) (fun n => ?_) (fun n => ?_) (keptC_le kept)
  · unfold keptC; rw [swapAt_get hl, if_neg h1, if_neg h2]
  · unfold keptC; rw [swapAt_get hl, if_pos rfl, hy]
  · unfold keptC; rw [swapAt_get hl, if_neg (by omega), if_pos rfl, hx]
end Go.Proofs.Ytneipacdpojjkaa
