/-
  Valid lists of orders in plain words: what the program's maps hold after some rounds.
-/
import Derived.Test.YtjpnodmcglcihaaOrdP
import Derived.Test.YtjpnodmcglcihaaMapL
namespace WageOrd
open WageMap

/-- The map of first orders after some rounds. -/
def firstM (l : List Ord) : Nat → List (Int × Ord)
  | 0 => []
  | i + 1 => match l[i]? with
    | some o => if (alFind o.n (firstM l i)).isSome then firstM l i else alPut o.n o (firstM l i)
    | none => firstM l i
/-- The map of counts after some rounds. -/
def countM (l : List Ord) : Nat → List (ByteArray × Int)
  | 0 => []
  | i + 1 => match l[i]? with
    | some o => if (alFind o.n (firstM l i)).isSome then countM l i else alPut o.p ((alFind o.p (countM l i)).getD 0 + 1) (countM l i)
    | none => countM l i
theorem find_take {l : List Ord} {i : Nat} {o : Ord} (ho : l[i]? = some o) (a : Int) : (l.take (i + 1)).find? (fun x => x.n == a) = ((l.take i).find? fun x => x.n == a).or (if o.n == a then some o else none) := by
  rw [List.take_add_one, ho, List.find?_append]
  congr 1
  simp only [Option.toList_some, List.find?_cons, List.find?_nil]
  split <;> simp_all
theorem firstM_find (l : List Ord) (a : Int) : ∀ i, alFind a (firstM l i) = (l.take i).find? fun x => x.n == a
  | 0 => by simp [firstM, alFind]
  | i + 1 => by
    unfold firstM
    cases ho : l[i]? with
    | none =>
      simp only
      rw [firstM_find l a i, List.take_add_one, ho]; simp
    | some o =>
      simp only
      rw [find_take ho]
      by_cases h : (alFind o.n (firstM l i)).isSome = true
      · rw [if_pos h, firstM_find l a i]
        by_cases e : o.n = a
        · rw [firstM_find] at h
          rw [e] at h
          cases hf : (l.take i).find? fun x => x.n == a with
          | none => rw [hf] at h; cases h
          | some y => rfl
        · simp [e]
      · rw [if_neg h]
        by_cases e : o.n = a
        · subst e
          rw [alFind_put_self]
          rw [firstM_find] at h
          cases hf : (l.take i).find? fun x => x.n == o.n with
          | some y => rw [hf] at h; simp at h
          | none => simp
        · rw [alFind_put_ne _ (fun h' => e h'.symm), firstM_find l a i]; simp [e]
theorem first_any (l : List Ord) (i : Nat) (a : Int) : (alFind a (firstM l i)).isSome = (l.take i).any fun x => x.n == a := by
  rw [firstM_find, Bool.eq_iff_iff, List.find?_isSome, List.any_eq_true]
theorem countM_find (l : List Ord) (p : ByteArray) : ∀ i, (alFind p (countM l i)).getD 0 = (cnt l p i : Int)
  | 0 => by simp [countM, alFind, cnt]
  | i + 1 => by
    unfold countM cnt
    cases ho : l[i]? with
    | none => simp only; rw [countM_find l p i]; simp
    | some o =>
      simp only
      rw [first_any]
      by_cases h : ((l.take i).any fun x => x.n == o.n) = true
      · rw [if_pos h, countM_find l p i]; simp [h]
      · rw [if_neg h]
        have h' : ((l.take i).any fun x => x.n == o.n) = false := by simpa using h
        by_cases e : o.p = p
        · subst e
          rw [alFind_put_self, h', countM_find l o.p i]; simp
        · rw [alFind_put_ne _ (fun h' => e h'.symm), countM_find l p i]; simp [e]
theorem firstM_mem {l : List Ord} {i : Nat} {a : Int} {x : Ord} (h : alFind a (firstM l i) = some x) : x ∈ l.take i ∧ x.n = a := by
  rw [firstM_find] at h
  exact ⟨List.mem_of_find?_eq_some h, by simpa using List.find?_some h⟩
theorem cnt_le (l : List Ord) (p : ByteArray) : ∀ i, cnt l p i ≤ i
  | 0 => Nat.le_refl _
  | i + 1 => by
    unfold cnt
    have := cnt_le l p i
    cases l[i]? with
    | none => simp only; omega
    | some o => simp only; split <;> omega

/-- How an element fares: it is not well-formed or too early; it does not fit the first with its number; it fits; it is new. -/
theorem fits_of {l : List Ord} {k : Nat} {o x : Ord} (hok : okB l k = true) (hx : alFind o.n (firstM l k) = some x) : fitsB l k o = (decide (x.p = o.p) && decide (x.c = o.c)) := by
  obtain ⟨hm, hn⟩ := firstM_mem hx
  unfold fitsB
  rw [Bool.eq_iff_iff, List.all_eq_true]
  simp only [Bool.and_eq_true, decide_eq_true_eq]
  constructor
  · intro h
    have := h x hm
    unfold fitB at this
    simpa [hn] using this
  · rintro ⟨h1, h2⟩ y hy
    unfold fitB
    by_cases e : y.n = o.n
    · have := ok_fit hok hy hm (by rw [hn, e])
      simp [this.1, this.2, h1, h2]
    · simp [e]
theorem fits_new {l : List Ord} {k : Nat} {o : Ord} (hx : alFind o.n (firstM l k) = none) : fitsB l k o = true := by
  rw [firstM_find, List.find?_eq_none] at hx
  unfold fitsB
  rw [List.all_eq_true]
  intro y hy
  have := hx y hy
  unfold fitB
  simp at this
  simp [this]
theorem firstM_old {l : List Ord} {k : Nat} {o x : Ord} (ho : l[k]? = some o) (hx : alFind o.n (firstM l k) = some x) : firstM l (k + 1) = firstM l k ∧ countM l (k + 1) = countM l k := by
  constructor
  · conv => lhs; unfold firstM
    simp [ho, hx]
  · conv => lhs; unfold countM
    simp [ho, hx]
theorem firstM_new {l : List Ord} {k : Nat} {o : Ord} (ho : l[k]? = some o) (hx : alFind o.n (firstM l k) = none) : firstM l (k + 1) = alPut o.n o (firstM l k) ∧ countM l (k + 1) = alPut o.p ((cnt l o.p k : Int) + 1) (countM l k) := by
  constructor
  · conv => lhs; unfold firstM
    simp [ho, hx]
  · conv => lhs; unfold countM
    simp [ho, hx, countM_find]
theorem cnt_now {l : List Ord} {k : Nat} (p : ByteArray) : (alFind p (countM l (k + 1))).getD 0 = (cnt l p (k + 1) : Int) := countM_find l p (k + 1)
theorem good_of {l : List Ord} {k : Nat} {o : Ord} (h1 : formB o = true) (h2 : prevB l k o = true) (h3 : fitsB l k o = true) (h4 : (cnt l o.p (k + 1) : Int) ≤ 16) : goodB l k o = true := by
  unfold goodB; rw [h1, h2, h3]; simp; omega
theorem prev_zero {l : List Ord} {o : Ord} : prevB l 0 o = true := rfl
theorem prev_at {l : List Ord} {k : Nat} {o x : Ord} (hk : 0 < k) (hx : l[k - 1]? = some x) : prevB l k o = decide (x.k ≤ o.k) := by
  obtain ⟨j, rfl⟩ : ∃ j, k = j + 1 := ⟨k - 1, by omega⟩
  simp only [prevB]
  rw [show j + 1 - 1 = j by omega] at hx
  rw [hx]
end WageOrd
