/-
  Parts of valid lists; open orders of a part, and with one order more.
-/
import Derived.Test.YtjpnodmcglcihaaOpenP
namespace WageOrd
open WageMap

theorem cnt_part (l : List Ord) (p : ByteArray) (m : Nat) : ∀ i, i ≤ m → cnt (l.take m) p i = cnt l p i
  | 0, _ => rfl
  | i + 1, h => by
    unfold cnt
    rw [cnt_part l p m i (by omega), List.getElem?_take, if_pos (by omega), List.take_take, Nat.min_eq_left (by omega)]
theorem good_part {l : List Ord} {m i : Nat} {o : Ord} (h : i < m) : goodB (l.take m) i o = goodB l i o := by
  unfold goodB
  have h1 : prevB (l.take m) i o = prevB l i o := by
    cases i with
    | zero => rfl
    | succ j => simp only [prevB]; rw [List.getElem?_take, if_pos (by omega)]
  have h2 : fitsB (l.take m) i o = fitsB l i o := by unfold fitsB; rw [List.take_take, Nat.min_eq_left (by omega)]
  rw [h1, h2, cnt_part _ _ _ _ (by omega)]
theorem ok_part {l : List Ord} {m : Nat} : ∀ i, i ≤ m → okB (l.take m) i = okB l i
  | 0, _ => rfl
  | i + 1, h => by
    unfold okB
    rw [ok_part i (by omega), List.getElem?_take, if_pos (by omega)]
    cases l[i]? with
    | none => rfl
    | some o => simp only; rw [good_part (by omega)]
theorem valid_len {l : List Ord} (h : validB l = true) : l.length ≤ 400 ∧ okB l l.length = true := by
  unfold validB at h
  simpa using h
theorem valid_part {l : List Ord} (h : validB l = true) (m : Nat) : validB (l.take m) = true := by
  obtain ⟨h1, h2⟩ := valid_len h
  unfold validB
  have hl : (l.take m).length ≤ l.length := by simp; omega
  rw [decide_eq_true (by omega), Bool.true_and]
  by_cases hm : m ≤ l.length
  · rw [ok_part _ (by simp; omega)]
    exact okB_le h2 hl
  · rw [List.take_of_length_le (by omega)]; exact h2
theorem prev_le {l : List Ord} {n i : Nat} {x y : Ord} (h : okB l n = true) (hi : i + 1 < n) (hx : l[i]? = some x) (hy : l[i + 1]? = some y) : x.k ≤ y.k := by
  have hg := okB_at h hi hy
  unfold goodB at hg
  simp only [Bool.and_eq_true] at hg
  have := hg.1.1.2
  simp only [prevB, hx] at this
  exact of_decide_eq_true this
theorem mono_k {l : List Ord} {n : Nat} (h : okB l n = true) : ∀ {d i : Nat} {x y : Ord}, i + d < n → l[i]? = some x → l[i + d]? = some y → x.k ≤ y.k
  | 0, i, x, y, _, hx, hy => by rw [Nat.add_zero, hx] at hy; injection hy with hy; subst hy; exact Int.le_refl _
  | d + 1, i, x, y, hd, hx, hy => by
    have hlt : i + d < l.length := by have := (List.getElem?_eq_some_iff.1 hy).1; omega
    have hz : l[i + d]? = some l[i + d] := List.getElem?_eq_getElem hlt
    exact Int.le_trans (mono_k h (by omega) hx hz) (prev_le h (by omega) hz (by rw [Nat.add_assoc]; exact hy))
theorem cM_part (l : List Ord) (p : ByteArray) (kn : Int) (m : Nat) : ∀ i, i ≤ m → cM (l.take m) p kn i = cM l p kn i
  | 0, _ => rfl
  | i + 1, h => by
    unfold cM
    rw [cM_part l p kn m i (by omega), List.getElem?_take, if_pos (by omega)]
theorem cM_stop {l : List Ord} {p : ByteArray} {kn : Int} {n0 : Nat} (h : ∀ j x, n0 ≤ j → l[j]? = some x → kn < x.k) : ∀ d, cM l p kn (n0 + d) = cM l p kn n0
  | 0 => rfl
  | d + 1 => by
    have ih := cM_stop (p := p) h d
    rw [show n0 + (d + 1) = n0 + d + 1 by omega]
    conv => lhs; unfold cM
    cases hx : l[n0 + d]? with
    | none => exact ih
    | some x =>
      have := h _ x (by omega) hx
      simp only
      rw [if_neg (by simp; intro _; omega)]
      exact ih
/-- The open orders are those of the part that is known. -/
theorem open_part {l : List Ord} {p : ByteArray} {mo kn : Int} {n0 : Nat} (hv : validB l = true) (hn : n0 ≤ l.length) (hs : ∀ x, l[n0]? = some x → kn < x.k) : openL (l.take n0) p mo kn = openL l p mo kn := by
  obtain ⟨_, hok⟩ := valid_len hv
  have hstop : ∀ j x, n0 ≤ j → l[j]? = some x → kn < x.k := fun j x hj hx => by
    have hjl := (List.getElem?_eq_some_iff.1 hx).1
    have h0 : l[n0]? = some l[n0] := List.getElem?_eq_getElem (by omega)
    have := mono_k hok (d := j - n0) (i := n0) (by omega) h0 (by rw [show n0 + (j - n0) = j by omega]; exact hx)
    have := hs _ h0
    omega
  unfold openL
  rw [valid_part hv, hv, List.length_take, Nat.min_eq_left hn, cM_part _ _ _ _ _ (Nat.le_refl _)]
  have := cM_stop (p := p) hstop (l.length - n0)
  rw [show n0 + (l.length - n0) = l.length by omega] at this
  rw [this]
theorem cM_snoc (l : List Ord) (o : Ord) (p : ByteArray) (kn : Int) : cM (l ++ [o]) p kn l.length = cM l p kn l.length := by
  have := cM_part (l ++ [o]) p kn l.length l.length (Nat.le_refl _)
  rw [List.take_left] at this
  exact this.symm
theorem rec_ok_inv {l r : List Ord} {o : Ord} {z : Int} (h : recL l o = (r, z)) (hz : z = 0) : r = l ++ [o] ∧ validB l = true ∧ formB o = true ∧ validB (l ++ [o]) = true ∧ prevB l l.length o = true ∧ fitsB l l.length o = true := by
  unfold recL at h
  subst hz
  split at h
  · rename_i h1
    simp only [Bool.and_eq_true] at h1
    split at h
    · rename_i h2
      split at h
      · rename_i h3
        split at h
        · rename_i h4
          injection h with e1 e2
          exact ⟨e1.symm, h1.1, h1.2, h4, h2, h3⟩
        · injection h with e1 e2; cases e2
      · injection h with e1 e2; cases e2
    · injection h with e1 e2; cases e2
  · injection h with e1 e2; cases e2
theorem open_more {l : List Ord} {o : Ord} {p : ByteArray} {mo kn : Int} (hv : validB l = true) (hv' : validB (l ++ [o]) = true) (hk : kn < o.k) : openL (l ++ [o]) p mo kn = openL l p mo kn := by
  unfold openL
  rw [hv, hv', List.length_append, show [o].length = 1 from rfl]
  have ho : (l ++ [o])[l.length]? = some o := by simp
  have : cM (l ++ [o]) p kn (l.length + 1) = cM l p kn l.length := by
    conv => lhs; unfold cM
    rw [ho]
    simp only
    rw [if_neg (by simp; intro _; omega), cM_snoc]
  rw [this]
theorem rec_err {l r : List Ord} {o : Ord} {z : Int} (h : recL l o = (r, z)) (hz : z ≠ 0) : r = [] := by
  unfold recL at h
  split at h
  · split at h
    · split at h
      · split at h
        · injection h with e1 e2; exact absurd e2.symm hz
        · injection h with e1 e2; exact e1.symm
      · injection h with e1 e2; exact e1.symm
    · injection h with e1 e2; exact e1.symm
  · injection h with e1 e2; exact e1.symm
end WageOrd
