/-
  Records that are found in bytes: plain laws.
-/
import Derived.Test.YtneipacdpojjkaaPend
namespace Go.Proofs.Ytneipacdpojjkaa
open Go.RowKit Go.Proofs WageMem WageDisk

/-- The bytes agree before an offset. -/
def AgreeTo (b1 b2 : List UInt8) (E : Nat) : Prop := b1.length = b2.length ∧ ∀ i, i < E → b1[i]? = b2[i]?
theorem AgreeTo.part {b1 b2 : List UInt8} {E : Nat} (h : AgreeTo b1 b2 E) {a m : Nat} (ha : a + m ≤ E) : (b1.drop a).take m = (b2.drop a).take m := by
  apply List.ext_getElem?
  intro i
  rw [List.getElem?_take, List.getElem?_take]
  by_cases hi : i < m
  · rw [if_pos hi, if_pos hi, List.getElem?_drop, List.getElem?_drop]; exact h.2 _ (by omega)
  · rw [if_neg hi, if_neg hi]
theorem recAt_agree {b1 b2 : List UInt8} {E : Nat} (h : AgreeTo b1 b2 E) {a k : Nat} {r : List UInt8} (hr : recAt b1 a k = some r) (ha : a + (13 + r.length) ≤ E) : recAt b2 a k = some r := by
  have hl := recAt_len hr
  have hlen : lenAt b2 a = lenAt b1 a := by
    unfold lenAt
    rw [List.getD_eq_getElem?_getD, List.getD_eq_getElem?_getD, List.getD_eq_getElem?_getD, List.getD_eq_getElem?_getD, h.2 (a + 1) (by omega), h.2 (a + 2) (by omega)]
  unfold recAt at hr ⊢
  rw [← h.1, hlen]
  by_cases c1 : b1.length < a + 13
  · rw [if_pos c1] at hr; cases hr
  · rw [if_neg c1] at hr ⊢
    by_cases c2 : lenAt b1 a < 1 ∨ 4096 < lenAt b1 a ∨ b1.length < a + (13 + lenAt b1 a)
    · rw [if_pos c2] at hr; cases hr
    · rw [if_neg c2] at hr ⊢
      split at hr
      · rename_i hq
        injection hr with hr
        have hrl : r.length = lenAt b1 a := by rw [← hr, List.length_take, List.length_drop]; omega
        rw [← h.part (a := a + 13) (m := lenAt b1 a) (by omega), ← h.part (a := a) (m := 13 + lenAt b1 a) (by omega), if_pos hq, hr]
      · cases hr
theorem recAt_zero {all : List UInt8} {a k : Nat} (h : all[a]? = some 0) : recAt all a k = none := by
  unfold recAt
  split
  · rfl
  · split
    · rfl
    · rw [if_neg]
      intro hq
      have hq := eq_of_beq hq
      have h0 : (codeB ((all.drop (a + 13)).take (lenAt all a)) k)[0]? = ((all.drop a).take (13 + lenAt all a))[0]? := by rw [hq]
      rw [List.getElem?_take, if_pos (by omega), List.getElem?_drop, show a + 0 = a from rfl, h] at h0
      unfold codeB at h0
      simp at h0
theorem recAt_short {all : List UInt8} {a k : Nat} (h : all.length < a + 13) : recAt all a k = none := by unfold recAt; rw [if_pos h]

/-- Records one after the other. -/
inductive Chain (all : List UInt8) : Nat → Nat → List (Nat × Nat) → Nat → Prop
  | nil (a k : Nat) : Chain all a k [] a
  | cons {a k e : Nat} {r : List UInt8} {xs : List (Nat × Nat)} (hr : recAt all a k = some r) (h : Chain all (a + (13 + r.length)) (k + 1) xs e) : Chain all a k ((a + 13, r.length) :: xs) e
theorem Chain.le {all : List UInt8} {a k e : Nat} {xs : List (Nat × Nat)} (h : Chain all a k xs e) : a ≤ e := by
  induction h with
  | nil => exact Nat.le_refl _
  | cons _ _ ih => omega
theorem scan_full (all : List UInt8) : ∀ (f a k : Nat), a ≤ all.length → all.length - a < f → ∃ e, Chain all a k (scan all f a k) e ∧ recAt all e (k + (scan all f a k).length) = none
  | 0, _, _, _, h => by omega
  | f + 1, a, k, ha, hf => by
    unfold scan
    cases hr : recAt all a k with
    | none => exact ⟨a, .nil a k, hr⟩
    | some r =>
      have hl := recAt_len hr
      obtain ⟨e, h1, h2⟩ := scan_full all f (a + (13 + r.length)) (k + 1) (by omega) (by omega)
      refine ⟨e, .cons hr h1, ?_⟩
      rw [List.length_cons]
      rw [show k + ((scan all f (a + (13 + r.length)) (k + 1)).length + 1) = k + 1 + (scan all f (a + (13 + r.length)) (k + 1)).length by omega]
      exact h2
theorem chain_scan {all : List UInt8} {a k e : Nat} {xs : List (Nat × Nat)} (h : Chain all a k xs e) (hn : recAt all e (k + xs.length) = none) : ∀ f, all.length - a < f → scan all f a k = xs := by
  induction h with
  | nil a k =>
    intro f hf
    cases f with
    | zero => omega
    | succ f => unfold scan; rw [show k + ([] : List (Nat × Nat)).length = k from rfl] at hn; rw [hn]
  | cons hr h ih =>
    intro f hf
    have hl := recAt_len hr
    cases f with
    | zero => omega
    | succ f =>
      unfold scan
      rw [hr]
      simp only
      rw [ih (by rw [List.length_cons] at hn; rw [show ∀ a b : Nat, a + 1 + b = a + (b + 1) by omega]; exact hn) f (by omega)]
theorem chain_end {all : List UInt8} {a k e : Nat} {xs : List (Nat × Nat)} (h : Chain all a k xs e) : e = match xs.getLast? with | none => a | some x => x.1 + x.2 := by
  induction h with
  | nil => rfl
  | @cons a k e r xs hr h ih =>
    cases xs with
    | nil => cases h; show a + (13 + r.length) = a + 13 + r.length; omega
    | cons y ys => rw [List.getLast?_cons_cons]; exact ih
theorem Chain.agree {b1 b2 : List UInt8} {a k e : Nat} {xs : List (Nat × Nat)} (h : Chain b1 a k xs e) {E : Nat} (hA : AgreeTo b1 b2 E) (he : e ≤ E) : Chain b2 a k xs e := by
  induction h with
  | nil => exact .nil _ _
  | cons hr h ih => exact .cons (recAt_agree hA hr (by have := h.le; omega)) (ih he)
theorem Chain.snoc {all : List UInt8} {a k e : Nat} {xs : List (Nat × Nat)} (h : Chain all a k xs e) {r : List UInt8} (hr : recAt all e (k + xs.length) = some r) : Chain all a k (xs ++ [(e + 13, r.length)]) (e + (13 + r.length)) := by
  induction h with
  | nil => exact .cons hr (.nil _ _)
  | cons hr' h ih => exact .cons hr' (ih (by rw [List.length_cons] at hr; rw [show ∀ a b : Nat, a + 1 + b = a + (b + 1) by omega]; exact hr))

theorem places_full (all : List UInt8) : Chain all 0 0 (places all) (endAt all) ∧ recAt all (endAt all) (places all).length = none := by
  obtain ⟨e, h1, h2⟩ := scan_full all (all.length + 1) 0 0 (Nat.zero_le _) (by omega)
  have he : e = endAt all := chain_end h1
  subst he
  rw [Nat.zero_add] at h2
  exact ⟨h1, h2⟩
theorem places_of {all : List UInt8} {xs : List (Nat × Nat)} {e : Nat} (h : Chain all 0 0 xs e) (hn : recAt all e xs.length = none) : places all = xs ∧ endAt all = e := by
  have h1 : places all = xs := chain_scan h (by rw [Nat.zero_add]; exact hn) _ (by omega)
  refine ⟨h1, ?_⟩
  unfold endAt
  rw [h1]
  exact (chain_end h).symm
end Go.Proofs.Ytneipacdpojjkaa
