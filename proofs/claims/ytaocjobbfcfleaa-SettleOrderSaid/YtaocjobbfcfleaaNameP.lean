/-
  Names in plain words.
-/
namespace WageOrd

/-- A letter, a digit or the underscore. -/
def chB (c : UInt8) : Bool := (decide (97 ≤ c.toNat) && decide (c.toNat ≤ 122)) || (decide (48 ≤ c.toNat) && decide (c.toNat ≤ 57)) || decide (c.toNat = 95)
def loB (c : UInt8) : Bool := decide (97 ≤ c.toNat) && decide (c.toNat ≤ 122)
def nameL : List UInt8 → Bool
  | [] => false
  | c :: l => decide (l.length < 16) && loB c && (c :: l).all chB
def nameB (s : ByteArray) : Bool := nameL s.data.toList

theorem name_empty {s : ByteArray} (h : s.size = 0) : nameB s = false := by
  unfold nameB
  have : s.data.toList = [] := List.eq_nil_of_length_eq_zero (by simpa using h)
  rw [this]; rfl
theorem name_long {s : ByteArray} (h : 16 < s.size) : nameB s = false := by
  unfold nameB
  have hl : 16 < s.data.toList.length := by simpa using h
  generalize s.data.toList = l at hl
  cases l with
  | nil => rfl
  | cons c l =>
    simp only [List.length_cons] at hl
    simp only [nameL]
    rw [decide_eq_false (by omega)]; rfl
theorem name_first {s : ByteArray} (h : 0 < s.size) (hc : loB s[0] = false) : nameB s = false := by
  unfold nameB
  have e : s.data.toList[0]? = some s[0] := by
    rw [List.getElem?_eq_getElem (by simpa using h)]; rfl
  generalize s.data.toList = l at e
  cases l with
  | nil => simp at e
  | cons c l => simp at e; subst e; simp [nameL, hc]
theorem name_all {s : ByteArray} (h : 0 < s.size) (h16 : s.size ≤ 16) (hc : loB s[0] = true) (ha : ∀ i (hi : i < s.size), chB s[i] = true) : nameB s = true := by
  unfold nameB
  have e : s.data.toList[0]? = some s[0] := by
    rw [List.getElem?_eq_getElem (by simpa using h)]; rfl
  have hl : s.data.toList.length ≤ 16 := by simpa using h16
  have ha' : s.data.toList.all chB = true := by
    rw [List.all_eq_true]
    intro x hx
    obtain ⟨i, hi, rfl⟩ := List.mem_iff_getElem.1 hx
    exact ha i (by simpa using hi)
  generalize s.data.toList = l at e hl ha'
  cases l with
  | nil => simp at e
  | cons c l => simp at e; subst e; simp only [List.length_cons] at hl; simp only [nameL, ha', hc, Bool.and_true, decide_eq_true_eq]; omega
theorem name_bad {s : ByteArray} {i : Nat} (hi : i < s.size) (hc : chB s[i] = false) : nameB s = false := by
  unfold nameB
  have e : s.data.toList[i]? = some s[i] := by
    rw [List.getElem?_eq_getElem (by simpa using hi)]; rfl
  have hm := List.mem_of_getElem? e
  generalize s.data.toList = l at hm
  cases l with
  | nil => rfl
  | cons c l =>
    have : (c :: l).all chB = false := by
      rw [Bool.eq_false_iff]
      intro h
      rw [List.all_eq_true] at h
      rw [h _ hm] at hc
      cases hc
    simp only [nameL, this, Bool.and_false]
theorem name_len {s : ByteArray} (h : nameB s = true) : 0 < s.size ∧ s.size ≤ 16 := by
  constructor
  · apply Classical.byContradiction
    intro h0
    rw [name_empty (by omega)] at h
    cases h
  · apply Classical.byContradiction
    intro h0
    rw [name_long (by omega)] at h
    cases h
end WageOrd
