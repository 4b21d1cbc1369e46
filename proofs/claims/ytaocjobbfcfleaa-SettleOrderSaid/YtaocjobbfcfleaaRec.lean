/-
  Slices of structs: each element is a row of cells.
-/
import Derived.Test.YtaocjobbfcfleaaMemB
import Derived.Deep.MidRow
namespace WageRec
open Go Go.RowKit WageMem

section
variable {α : Type} {enc : α → List Value} {size : Nat}
/-- Each element takes so many cells. -/
structure EncOk (enc : α → List Value) (size : Nat) : Prop where
  len : ∀ x, (enc x).length = size
  pos : 0 < size
  one : ∀ x, ∀ u ∈ enc x, u.oneCell' = true
theorem flat_len (E : EncOk enc size) (l : List α) : (l.flatMap enc).length = l.length * size := by
  induction l with
  | nil => simp
  | cons x l ih => rw [List.flatMap_cons, List.length_append, ih, E.len, List.length_cons, Nat.add_mul, Nat.one_mul, Nat.add_comm]
theorem flat_one (E : EncOk enc size) (l : List α) : ∀ u ∈ l.flatMap enc, u.oneCell' = true := by
  intro u hu
  obtain ⟨x, _, hx⟩ := List.mem_flatMap.1 hu
  exact E.one x u hx
theorem flat_take (E : EncOk enc size) : ∀ (l : List α) (q : Nat), (l.flatMap enc).take (q * size) = (l.take q).flatMap enc
  | [], q => by simp
  | x :: l, 0 => by simp
  | x :: l, q + 1 => by
    rw [List.flatMap_cons, List.take_succ_cons, List.flatMap_cons, ← flat_take E l q, List.take_append, E.len, Nat.add_mul, Nat.one_mul]
    rw [List.take_of_length_le (by rw [E.len]; omega), Nat.add_sub_cancel]
theorem flat_drop (E : EncOk enc size) : ∀ (l : List α) (q : Nat), (l.flatMap enc).drop (q * size) = (l.drop q).flatMap enc
  | [], q => by simp
  | x :: l, 0 => by simp
  | x :: l, q + 1 => by
    rw [List.flatMap_cons, List.drop_succ_cons, ← flat_drop E l q, List.drop_append, E.len, Nat.add_mul, Nat.one_mul]
    rw [List.drop_of_length_le (by rw [E.len]; omega), Nat.add_sub_cancel, List.nil_append]
theorem flat_at (E : EncOk enc size) {l : List α} {k : Nat} {x : α} (h : l[k]? = some x) {j : Nat} {u : Value} (hu : (enc x)[j]? = some u) : (l.flatMap enc)[k * size + j]? = some u := by
  have h1 : (l.flatMap enc)[k * size + j]? = ((l.flatMap enc).drop (k * size))[j]? := by rw [List.getElem?_drop]
  rw [h1, flat_drop E]
  have hlt := (List.getElem?_eq_some_iff.1 h).1
  rw [List.drop_eq_getElem_cons hlt, List.flatMap_cons]
  have hx : l[k] = x := (List.getElem?_eq_some_iff.1 h).2
  rw [hx, List.getElem?_append_left (List.getElem?_eq_some_iff.1 hu).1]
  exact hu

/-- A slice of structs. -/
def Recs (enc : α → List Value) (size : Nat) (w : World) (A : Option Addr) (n c : Nat) (l : List α) : Prop := l.length = n ∧ Sl w size A n c (l.flatMap enc)
variable {w w' : World} {A : Option Addr} {n c : Nat} {l : List α}
theorem Recs.grew (h : Recs enc size w A n c l) (g : Grew w w') : Recs enc size w' A n c l := ⟨h.1, h.2.grew g⟩
theorem Recs.none_ : Recs enc size w none 0 0 [] := ⟨rfl, ⟨Nat.le_refl _, Nat.zero_le _, by simp, Cells.nil, fun _ => ⟨rfl, rfl⟩⟩⟩
theorem Recs.le (h : Recs enc size w A n c l) : n ≤ 9223372036854775807 := Nat.le_trans h.2.1 h.2.2.1
theorem Recs.cap (h : Recs enc size w A n c l) : n ≤ c := h.2.1
theorem Recs.at_ (E : EncOk enc size) (h : Recs enc size w A n c l) {k : Nat} (hk : k < n) : ∃ b o x, A = some ⟨b, o, none⟩ ∧ l[k]? = some x ∧ w.rangeAt b (o + k * size) (enc x) := by
  have hl : k < l.length := by rw [h.1]; exact hk
  have hne : l.flatMap enc ≠ [] := by
    intro h0
    have := flat_len E l
    rw [h0, h.1] at this
    have hp := Nat.mul_pos (show 0 < n by omega) E.pos
    simp at this
    omega
  obtain ⟨b, o, e, hc⟩ := h.2.2.2.2.1 hne
  refine ⟨b, o, l[k], e, List.getElem?_eq_getElem hl, fun j u hu => ?_⟩
  rw [Nat.add_assoc]
  exact hc _ u (flat_at E (List.getElem?_eq_getElem hl) hu)
theorem Recs.own {base : Nat} {e : TypeId} (hn : l.length = n) (h : w.ownsRow base e size (.slice A n c) n (l.flatMap enc)) : Recs enc size w A n c l := ⟨hn, Sl.own h⟩
theorem Recs.head (E : EncOk enc size) (h : Recs enc size w A n c l) {q k : Nat} (hq : q ≤ n) (hk : q ≤ k) (hkc : k ≤ c) : Recs enc size w A q k (l.take q) :=
  ⟨by rw [List.length_take, h.1]; omega, by rw [← flat_take E]; exact h.2.head hq hk hkc⟩
theorem Recs.tail (E : EncOk enc size) (h : Recs enc size w A n c l) {q : Nat} (hq : q ≤ n) : Recs enc size w (tailA A c q size) (n - q) (c - q) (l.drop q) :=
  ⟨by rw [List.length_drop, h.1], by rw [← flat_drop E]; exact h.2.tail hq⟩
/-- A row that has just been built. -/
theorem Recs.built (E : EncOk enc size) {t : TypeId} (cs : Array Value) (hcs : cs = (l.flatMap enc).toArray) (hn : l.length = n) (hm : n ≤ 1000) : Recs enc size (w.alloc (.cells cs t)) (some ⟨w.heap.size, 0, none⟩) n n l := by
  subst hcs
  refine ⟨hn, Nat.le_refl _, by unfold maxLen; omega, by rw [flat_len E, hn], fun _ => ⟨w.heap.size, 0, rfl, fun j u hu => ?_⟩, fun h => by cases h⟩
  rw [cell_of_row _ w.heap.size (0 + j) _ t (0, 0) (heap_alloc_new w _), Nat.zero_add]
  simpa using hu
/-- A variable that has just been made. -/
theorem range_new (w : World) (cs : List Value) (t : TypeId) : (w.alloc (.cells cs.toArray t)).rangeAt w.heap.size 0 cs := by
  intro j u hu
  rw [cell_of_row _ w.heap.size (0 + j) _ t (0, 0) (heap_alloc_new w _), Nat.zero_add]
  simpa using hu
theorem range_grew {b o : Nat} {cs : List Value} (h : w.rangeAt b o cs) (g : Grew w w') : w'.rangeAt b o cs := fun j u hu => g.cell (h j u hu)
theorem range_at {b o : Nat} {cs : List Value} (h : w.rangeAt b o cs) (j : Nat) {u : Value} (hu : cs[j]? = some u) : w.cell? ⟨b, o + j, none⟩ = some u := h j u hu
end
end WageRec
