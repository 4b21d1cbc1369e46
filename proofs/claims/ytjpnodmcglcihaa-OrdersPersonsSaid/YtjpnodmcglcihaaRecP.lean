/-
  Recording an order, in plain words.
-/
import Derived.Test.YtjpnodmcglcihaaValP
namespace WageOrd

/-- What Record returns: the list and the error's number. -/
def recL (l : List Ord) (o : Ord) : List Ord × Int :=
  if validB l && formB o then
    if prevB l l.length o then
      if fitsB l l.length o then
        if validB (l ++ [o]) then (l ++ [o], 0) else ([], 2)
      else ([], 311)
    else ([], 6)
  else ([], 1)
theorem rec_arg {l : List Ord} {o : Ord} (h : (validB l && formB o) = false) : recL l o = ([], 1) := by unfold recL; rw [h]; rfl
theorem rec_clock {l : List Ord} {o : Ord} (h : (validB l && formB o) = true) (h1 : prevB l l.length o = false) : recL l o = ([], 6) := by unfold recL; rw [h, h1]; rfl
theorem rec_order {l : List Ord} {o : Ord} (h : (validB l && formB o) = true) (h1 : prevB l l.length o = true) (h2 : fitsB l l.length o = false) : recL l o = ([], 311) := by unfold recL; rw [h, h1, h2]; rfl
theorem rec_limit {l : List Ord} {o : Ord} (h : (validB l && formB o) = true) (h1 : prevB l l.length o = true) (h2 : fitsB l l.length o = true) (h3 : validB (l ++ [o]) = false) : recL l o = ([], 2) := by unfold recL; rw [h, h1, h2, h3]; rfl
theorem rec_ok {l : List Ord} {o : Ord} (h : (validB l && formB o) = true) (h1 : prevB l l.length o = true) (h2 : fitsB l l.length o = true) (h3 : validB (l ++ [o]) = true) : recL l o = (l ++ [o], 0) := by unfold recL; rw [h, h1, h2, h3]; rfl
theorem fits_to {l : List Ord} {o x : Ord} {k : Nat} (h : fitsB l k o = true) (hx : l[k]? = some x) (hf : fitB x o = true) : fitsB l (k + 1) o = true := by
  unfold fitsB at *
  rw [List.take_add_one, hx, List.all_append, h]
  simp [hf]
theorem fits_bad {l : List Ord} {o x : Ord} {k : Nat} (hx : l[k]? = some x) (hf : fitB x o = false) : fitsB l l.length o = false := by
  unfold fitsB
  rw [Bool.eq_false_iff]
  intro h
  rw [List.all_eq_true] at h
  have := h x (by rw [List.take_length]; exact List.mem_of_getElem? hx)
  rw [hf] at this
  cases this
theorem prev_last {l : List Ord} {o x : Ord} (hn : 0 < l.length) (hx : l[l.length - 1]? = some x) : prevB l l.length o = decide (x.k ≤ o.k) := prev_at hn hx
end WageOrd
