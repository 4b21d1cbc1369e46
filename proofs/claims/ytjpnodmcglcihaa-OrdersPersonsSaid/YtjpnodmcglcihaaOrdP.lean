/-
  Orders in plain words: names, well-formed orders, valid lists.
-/
namespace WageOrd

structure Ord where
  n : Int
  p : ByteArray
  c : ByteArray
  r : Int
  k : Int
  f : Int
  m : Int
  fam : Bool
  deriving DecidableEq

/-- A letter, a digit or the underscore. -/
def chB (c : UInt8) : Bool := (decide (97 ≤ c.toNat) && decide (c.toNat ≤ 122)) || (decide (48 ≤ c.toNat) && decide (c.toNat ≤ 57)) || decide (c.toNat = 95)
def loB (c : UInt8) : Bool := decide (97 ≤ c.toNat) && decide (c.toNat ≤ 122)
def nameL : List UInt8 → Bool
  | [] => false
  | c :: l => decide (l.length < 16) && loB c && (c :: l).all chB
def nameB (s : ByteArray) : Bool := nameL s.data.toList
def numsB (o : Ord) : Bool := decide (0 ≤ o.r) && decide (o.r ≤ 1000000) && decide (0 ≤ o.k) && decide (o.k ≤ 36524) && decide (0 ≤ o.f) && decide (o.f ≤ 1199) && decide (0 ≤ o.m) && decide (o.m ≤ 1000000000000)
def formB (o : Ord) : Bool := decide (1 ≤ o.n) && decide (o.n ≤ 1000000) && nameB o.p && nameB o.c && numsB o

theorem name_empty {s : ByteArray} (h : s.size = 0) : nameB s = false := by
  unfold nameB
  have : s.data.toList = [] := List.eq_nil_of_length_eq_zero (by simpa using h)
  rw [this]; rfl
theorem name_long {s : ByteArray} (h : 16 < s.size) : nameB s = false := by
  unfold nameB
  have hl : 16 < s.data.toList.length := by simpa using h
  generalize s.data.toList = l at hl
  cases l with
  | nil => rfl
  | cons c l =>
    simp only [List.length_cons] at hl
    simp only [nameL]
    rw [decide_eq_false (by omega)]; rfl
theorem name_first {s : ByteArray} (h : 0 < s.size) (hc : loB s[0] = false) : nameB s = false := by
  unfold nameB
  have e : s.data.toList[0]? = some s[0] := by
    rw [List.getElem?_eq_getElem (by simpa using h)]; rfl
  generalize s.data.toList = l at e
  cases l with
  | nil => simp at e
  | cons c l => simp at e; subst e; simp [nameL, hc]
theorem name_all {s : ByteArray} (h : 0 < s.size) (h16 : s.size ≤ 16) (hc : loB s[0] = true) (ha : ∀ i (hi : i < s.size), chB s[i] = true) : nameB s = true := by
  unfold nameB
  have e : s.data.toList[0]? = some s[0] := by
    rw [List.getElem?_eq_getElem (by simpa using h)]; rfl
  have hl : s.data.toList.length ≤ 16 := by simpa using h16
  have ha' : s.data.toList.all chB = true := by
    rw [List.all_eq_true]
    intro x hx
    obtain ⟨i, hi, rfl⟩ := List.mem_iff_getElem.1 hx
    exact ha i (by simpa using hi)
  generalize s.data.toList = l at e hl ha'
  cases l with
  | nil => simp at e
  | cons c l => simp at e; subst e; simp only [List.length_cons] at hl; simp only [nameL, ha', hc, Bool.and_true, decide_eq_true_eq]; omega
theorem name_bad {s : ByteArray} {i : Nat} (hi : i < s.size) (hc : chB s[i] = false) : nameB s = false := by
  unfold nameB
  have e : s.data.toList[i]? = some s[i] := by
    rw [List.getElem?_eq_getElem (by simpa using hi)]; rfl
  have hm := List.mem_of_getElem? e
  generalize s.data.toList = l at hm
  cases l with
  | nil => rfl
  | cons c l =>
    have : (c :: l).all chB = false := by
      rw [Bool.eq_false_iff]
      intro h
      rw [List.all_eq_true] at h
      rw [h _ hm] at hc
      cases hc
    simp only [nameL, this, Bool.and_false]
theorem name_len {s : ByteArray} (h : nameB s = true) : 0 < s.size ∧ s.size ≤ 16 := by
  constructor
  · apply Classical.byContradiction
    intro h0
    rw [name_empty (by omega)] at h
    cases h
  · apply Classical.byContradiction
    intro h0
    rw [name_long (by omega)] at h
    cases h

/-! ### valid lists -/
/-- How many different numbers the orders of a person have among the first ones. -/
def cnt (l : List Ord) (p : ByteArray) : Nat → Nat
  | 0 => 0
  | i + 1 => cnt l p i + match l[i]? with
    | some o => if decide (o.p = p) && !((l.take i).any fun x => x.n == o.n) then 1 else 0
    | none => 0
def prevB (l : List Ord) (i : Nat) (o : Ord) : Bool :=
  match i with
  | 0 => true
  | j + 1 => match l[j]? with
    | some x => decide (x.k ≤ o.k)
    | none => true
def fitB (x o : Ord) : Bool := x.n != o.n || (decide (x.p = o.p) && decide (x.c = o.c))
def fitsB (l : List Ord) (i : Nat) (o : Ord) : Bool := (l.take i).all fun x => fitB x o
def goodB (l : List Ord) (i : Nat) (o : Ord) : Bool := formB o && prevB l i o && fitsB l i o && decide (cnt l o.p (i + 1) ≤ 16)
def okB (l : List Ord) : Nat → Bool
  | 0 => true
  | i + 1 => okB l i && match l[i]? with
    | some o => goodB l i o
    | none => true
def validB (l : List Ord) : Bool := decide (l.length ≤ 400) && okB l l.length

theorem okB_le {l : List Ord} : ∀ {k : Nat}, okB l k = true → ∀ {i : Nat}, i ≤ k → okB l i = true
  | 0, h, i, hi => by obtain rfl : i = 0 := by omega
                      exact h
  | k + 1, h, i, hi => by
    by_cases e : i = k + 1
    · subst e; exact h
    · simp only [okB, Bool.and_eq_true] at h
      exact okB_le h.1 (by omega)
theorem okB_at {l : List Ord} {k : Nat} (h : okB l k = true) {i : Nat} {o : Ord} (hi : i < k) (ho : l[i]? = some o) : goodB l i o = true := by
  have := okB_le h (show i + 1 ≤ k by omega)
  simp only [okB, Bool.and_eq_true, ho] at this
  exact this.2
theorem okB_succ {l : List Ord} {k : Nat} {o : Ord} (ho : l[k]? = some o) : okB l (k + 1) = (okB l k && goodB l k o) := by simp only [okB, ho]
theorem okB_bad {l : List Ord} {k n : Nat} {o : Ord} (ho : l[k]? = some o) (hb : goodB l k o = false) (hn : k < n) : okB l n = false := by
  rw [Bool.eq_false_iff]
  intro h
  rw [okB_at h hn ho] at hb
  cases hb
/-- Those with one number agree. -/
theorem ok_fit {l : List Ord} {k : Nat} (h : okB l k = true) {x y : Ord} (hx : x ∈ l.take k) (hy : y ∈ l.take k) (hn : x.n = y.n) : x.p = y.p ∧ x.c = y.c := by
  obtain ⟨i, hi⟩ := List.mem_iff_getElem?.1 hx
  obtain ⟨j, hj⟩ := List.mem_iff_getElem?.1 hy
  have key : ∀ {i j : Nat} {x y : Ord}, (l.take k)[i]? = some x → (l.take k)[j]? = some y → x.n = y.n → i < j → x.p = y.p ∧ x.c = y.c := by
    intro i j x y hi hj hn hij
    rw [List.getElem?_take] at hi hj
    split at hj
    · rename_i hjk
      split at hi
      · have hg := okB_at h hjk hj
        unfold goodB at hg
        simp only [Bool.and_eq_true] at hg
        have hf := hg.1.2
        unfold fitsB at hf
        rw [List.all_eq_true] at hf
        have hm : x ∈ l.take j := List.mem_iff_getElem?.2 ⟨i, by rw [List.getElem?_take, if_pos hij]; exact hi⟩
        have := hf x hm
        unfold fitB at this
        simp only [Bool.or_eq_true, bne_iff_ne, ne_eq, hn, not_true, false_or, Bool.and_eq_true, decide_eq_true_eq] at this
        exact this
      · cases hi
    · cases hj
  rcases Nat.lt_trichotomy i j with hij | rfl | hij
  · exact key hi hj hn hij
  · rw [hi] at hj; injection hj with hj; subst hj; exact ⟨rfl, rfl⟩
  · have := key hj hi hn.symm hij; exact ⟨this.1.symm, this.2.symm⟩
end WageOrd
