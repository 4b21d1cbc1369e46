/-
  The map from payments' IDs to their places, and the tallies, in plain words.
-/
import Derived.Test.YtaocjobbfcfleaaSetP
import Derived.Test.YtaocjobbfcfleaaMapL
namespace WageSet
open WageOrd WageMap

def plM (ps : List Pay) : Nat → List (Int × Int)
  | 0 => []
  | i + 1 => match ps[i]? with
    | some p => alPut p.id (i : Int) (plM ps i)
    | none => plM ps i
theorem plM_succ {ps : List Pay} {i : Nat} {p : Pay} (h : ps[i]? = some p) : plM ps (i + 1) = alPut p.id (i : Int) (plM ps i) := by
  conv => lhs; unfold plM
  rw [h]
theorem any_succ {ps : List Pay} {k : Nat} {p : Pay} {a : Int} (h : ps[k]? = some p) : ((ps.take (k + 1)).any fun x => x.id == a) = (((ps.take k).any fun x => x.id == a) || (p.id == a)) := by
  rw [List.take_add_one, h, List.any_append]; simp
theorem plM_spec {ps : List Pay} (a : Int) : ∀ {k : Nat}, k ≤ ps.length →
    (alFind a (plM ps k) = none ∧ ((ps.take k).any fun x => x.id == a) = false) ∨ (∃ j p, j < k ∧ ps[j]? = some p ∧ p.id = a ∧ alFind a (plM ps k) = some (j : Int))
  | 0, _ => .inl ⟨rfl, by simp⟩
  | k + 1, hk => by
    have hx : ps[k]? = some ps[k] := List.getElem?_eq_getElem (by omega)
    rw [plM_succ hx, any_succ hx]
    by_cases e : ps[k].id = a
    · exact .inr ⟨k, ps[k], by omega, hx, e, by rw [e]; exact alFind_put_self _ _ _⟩
    · rw [alFind_put_ne _ (fun h => e h.symm)]
      rcases plM_spec a (show k ≤ ps.length by omega) with ⟨h1, h2⟩ | ⟨j, p, h1, h2, h3, h4⟩
      · exact .inl ⟨h1, by rw [h2]; simpa using e⟩
      · exact .inr ⟨j, p, by omega, h2, h3, h4⟩
theorem plM_len (ps : List Pay) : ∀ k, (plM ps k).length ≤ k
  | 0 => Nat.le_refl _
  | k + 1 => by
    have := plM_len ps k
    unfold plM
    split
    · rename_i p _; have h2 := alPut_length p.id (k : Int) (plM ps k); omega
    · omega
theorem ids_ne {ps : List Pay} {n : Nat} (h : psB ps n = true) {i j : Nat} {p q : Pay} (hi : i < n) (hj : j < n) (hp : ps[i]? = some p) (hq : ps[j]? = some q) (hne : i ≠ j) : p.id ≠ q.id := by
  have key : ∀ {i j : Nat} {p q : Pay}, j < n → ps[i]? = some p → ps[j]? = some q → i < j → p.id ≠ q.id := fun {i j p q} hj hp hq hij e => by
    have h2 := (psB_at h hj hq).2
    rw [List.any_eq_false] at h2
    have hm : p ∈ ps.take j := List.mem_iff_getElem?.2 ⟨i, by rw [List.getElem?_take, if_pos hij]; exact hp⟩
    exact h2 p hm (by simpa using e)
  rcases Nat.lt_or_gt_of_ne hne with h1 | h1
  · exact key hj hp hq h1
  · exact fun e => key hi hq hp h1 e.symm
theorem findP_none {ps : List Pay} {a : Int} (h : ((ps.take ps.length).any fun x => x.id == a) = false) : findP ps a = none := by
  rw [List.take_length] at h
  unfold findP
  rw [List.find?_eq_none]
  intro x hx
  rw [List.any_eq_false] at h
  exact h x hx
theorem findP_at {ps : List Pay} (h : psB ps ps.length = true) {j : Nat} {p : Pay} {a : Int} (hp : ps[j]? = some p) (e : p.id = a) : findP ps a = some p := by
  subst e
  have hj := (List.getElem?_eq_some_iff.1 hp).1
  have hx := (List.getElem?_eq_some_iff.1 hp).2
  unfold findP
  rw [List.find?_eq_some_iff_getElem]
  refine ⟨by simp, j, hj, hx, fun i hi => ?_⟩
  have h2 := (psB_at h hj hp).2
  rw [List.any_eq_false] at h2
  have hm : ps[i] ∈ ps.take j := List.mem_iff_getElem?.2 ⟨i, by rw [List.getElem?_take, if_pos hi]; exact List.getElem?_eq_getElem (by omega)⟩
  have := h2 _ hm
  simpa using this
theorem tal_round {ps : List Pay} {zs : List Ans} (hd : psB ps ps.length = true) {k j : Nat} {a : Ans} {p : Pay} (hp : ps[j]? = some p) (ha : zs[k]? = some a) (he : p.id = a.id) :
    (ps.map fun p => tal p.id (zs.take k)).set j (talA (tal p.id (zs.take k)) a) = ps.map fun p => tal p.id (zs.take (k + 1)) := by
  apply List.ext_getElem?
  intro i
  have hj := (List.getElem?_eq_some_iff.1 hp).1
  rw [List.getElem?_set, List.getElem?_map, List.getElem?_map, List.take_add_one, ha]
  by_cases e : j = i
  · subst e
    rw [if_pos rfl, if_pos (by simpa using hj), hp]
    simp only [Option.map_some, Option.toList_some]
    rw [tal_in he.symm]
  · rw [if_neg e]
    cases hi : ps[i]? with
    | none => rfl
    | some q =>
      simp only [Option.map_some, Option.toList_some]
      rw [tal_out]
      have := ids_ne hd hj (List.getElem?_eq_some_iff.1 hi).1 hp hi e
      omega
theorem tal_zero (ps : List Pay) (zs : List Ans) : (ps.map fun p => tal p.id (zs.take 0)) = List.replicate ps.length ⟨0, 0, 0, 0⟩ := by
  rw [List.take_zero]
  induction ps with
  | nil => rfl
  | cons p ps ih => rw [List.map_cons, List.length_cons, List.replicate_succ, ih, tal_nil]
theorem ans_in {ps : List Pay} {zs : List Ans} {k : Nat} (h : asB ps zs k = true) {a : Ans} (ha : a ∈ zs.take k) : ansB a = true := by
  obtain ⟨i, hi⟩ := List.mem_iff_getElem?.1 ha
  rw [List.getElem?_take] at hi
  split at hi
  · rename_i hik; exact (asB_at h hik hi).1
  · cases hi
theorem ans_c {a : Ans} (h : ansB a = true) : 0 ≤ a.c ∧ a.c ≤ 1000000000000 := by
  unfold ansB centB at h
  simp only [Bool.and_eq_true] at h
  have h4 := h.2
  split at h4
  · simp only [Bool.and_eq_true, decide_eq_true_eq] at h4; omega
  · simp only [Bool.and_eq_true, decide_eq_true_eq] at h4; omega
theorem ans_k {a : Ans} (h : ansB a = true) : a.k = 1 ∨ a.k = 2 ∨ a.k = 3 ∨ a.k = 4 := by
  unfold ansB at h
  simp only [Bool.and_eq_true] at h
  have h4 := h.2
  split at h4
  · omega
  · simp only [Bool.and_eq_true, decide_eq_true_eq] at h4; omega
theorem sm_bound {f : Ans → Int} {l : List Ans} (h : ∀ a ∈ l, 0 ≤ f a ∧ f a ≤ 1000000000000) (hl : l.length ≤ 2100) : 0 ≤ sm f l ∧ sm f l ≤ 2100000000000000 := by
  refine ⟨sm_nonneg fun a ha => (h a ha).1, ?_⟩
  have := sm_le (m := 1000000000000) fun a ha => (h a ha).2
  omega
theorem tal_bound {ps : List Pay} {zs : List Ans} {k : Nat} (h : asB ps zs k = true) (hk : k ≤ 2100) (id : Int) : ∀ z ∈ [(tal id (zs.take k)).pd, (tal id (zs.take k)).bk, (tal id (zs.take k)).tk, (tal id (zs.take k)).rf], 0 ≤ z ∧ z ≤ 2100000000000000 := by
  have hl : (zs.take k).length ≤ 2100 := by rw [List.length_take]; omega
  have hc : ∀ a ∈ zs.take k, 0 ≤ a.c ∧ a.c ≤ 1000000000000 := fun a ha => ans_c (ans_in h ha)
  intro z hz
  simp only [List.mem_cons, List.not_mem_nil, or_false] at hz
  rcases hz with rfl | rfl | rfl | rfl <;> refine sm_bound (fun a ha => ?_) hl <;> have := hc a ha <;> simp only [pdF, bkF, tkF, rfF] <;> split <;> omega
theorem day_no {ps : List Pay} {a : Ans} (h : findP ps a.id = none) : dayOk ps a = false := by unfold dayOk; rw [h]
theorem dayAt {ps : List Pay} {a : Ans} {p : Pay} {b : Bool} (h : findP ps a.id = some p) (hb : decide (p.d ≤ a.d) = b) : dayOk ps a = b := by unfold dayOk; rw [h]; exact hb
theorem prev_at {zs : List Ans} {k : Nat} {a x : Ans} {b : Bool} (hx : zs[k]? = some x) (hb : decide (x.q < a.q) = b) : prevQ zs (k + 1) a = b := by unfold prevQ; simp only [hx]; exact hb
end WageSet
