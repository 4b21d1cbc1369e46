/-
  Records that end before an offset do not depend on the bytes from there on.
-/
import Derived.Test.YtneipacdpojjkaaJlawB
namespace Go.Proofs.Ytneipacdpojjkaa
open Go.RowKit Go.Proofs WageMem WageDisk

theorem chain_more {all : List UInt8} {a k e : Nat} {xs : List (Nat × Nat)} (h : Chain all a k xs e) : ∀ f, all.length - a < f → ∃ ys, scan all f a k = xs ++ ys := by
  induction h with
  | nil => exact fun f _ => ⟨_, rfl⟩
  | cons hr h ih =>
    intro f hf
    have hl := recAt_len hr
    cases f with
    | zero => omega
    | succ f =>
      obtain ⟨ys, hy⟩ := ih f (by omega)
      refine ⟨ys, ?_⟩
      unfold scan
      rw [hr]
      simp only
      rw [hy]; rfl
theorem chain_take {all : List UInt8} {a k e : Nat} {xs : List (Nat × Nat)} (h : Chain all a k xs e) : ∀ i x, xs[i]? = some x → Chain all a k (xs.take (i + 1)) (x.1 + x.2) := by
  induction h with
  | nil => intro i x hx; simp at hx
  | @cons a k e r xs hr h ih =>
    intro i x hx
    cases i with
    | zero =>
      simp at hx
      subst hx
      rw [List.take_succ_cons, List.take_zero]
      have : a + 13 + r.length = a + (13 + r.length) := by omega
      show Chain all a k [(a + 13, r.length)] (a + 13 + r.length)
      rw [this]
      exact .cons hr (.nil _ _)
    | succ i =>
      rw [List.take_succ_cons]
      exact .cons hr (ih i x (by simpa using hx))
/-- A record that ends at or before an offset up to which the bytes agree is found in both. -/
theorem recs_agree {b1 b2 : List UInt8} {F : Nat} (hA : AgreeTo b1 b2 F) {i : Nat} {x : Nat × Nat} (hx : (places b1)[i]? = some x) (hF : x.1 + x.2 ≤ F) :
    (places b2)[i]? = some x ∧ partOf b2 x = partOf b1 x := by
  have c1 := chain_take (places_full b1).1 i x hx
  have c2 := c1.agree hA hF
  obtain ⟨ys, hy⟩ := chain_more c2 (b2.length + 1) (by omega)
  refine ⟨?_, by unfold partOf; exact (hA.part hF).symm⟩
  have hi := (List.getElem?_eq_some_iff.1 hx).1
  show (scan b2 (b2.length + 1) 0 0)[i]? = some x
  rw [hy, List.getElem?_append_left (by rw [List.length_take]; omega), List.getElem?_take, if_pos (by omega), hx]
/-- Where a chain's records begin: the end so far and 13 bytes. -/
theorem chain_begin {all : List UInt8} {a k e : Nat} {xs : List (Nat × Nat)} (h : Chain all a k xs e) : ∀ i x, xs[i]? = some x → x.1 + x.2 = a + ((xs.take (i + 1)).map fun y => 13 + y.2).sum := by
  induction h with
  | nil => intro i x hx; simp at hx
  | @cons a k e r xs hr h ih =>
    intro i x hx
    cases i with
    | zero =>
      simp at hx
      subst hx
      simp; omega
    | succ i =>
      have := ih i x (by simpa using hx)
      rw [List.take_succ_cons, List.map_cons, List.sum_cons, this]
      simp only
      omega
end Go.Proofs.Ytneipacdpojjkaa
