/-
  The last known element of each number, in plain words.
-/
import Derived.Test.YtjpnodmcglcihaaClkP
namespace WageOrd
open WageMap

/-- The map of the last known orders after some rounds. -/
def lM (l : List Ord) (kn : Int) : Nat → List (Int × Ord)
  | 0 => []
  | i + 1 => match l[i]? with
    | some o => if o.k ≤ kn then alPut o.n o (lM l kn i) else lM l kn i
    | none => lM l kn i
theorem lM_in {l : List Ord} {k : Nat} {x : Ord} {kn : Int} (hx : l[k]? = some x) (h : x.k ≤ kn) : lM l kn (k + 1) = alPut x.n x (lM l kn k) := by
  conv => lhs; unfold lM
  simp [hx, h]
theorem lM_out {l : List Ord} {k : Nat} {x : Ord} {kn : Int} (hx : l[k]? = some x) (h : ¬ x.k ≤ kn) : lM l kn (k + 1) = lM l kn k := by
  conv => lhs; unfold lM
  simp [hx, h]
theorem lM_keys (l : List Ord) (kn : Int) : ∀ i, Keys (lM l kn i) ∧ ∀ q ∈ lM l kn i, q.1 = q.2.n ∧ q.2 ∈ l.take i ∧ q.2.k ≤ kn
  | 0 => ⟨Keys.nil, by simp [lM]⟩
  | i + 1 => by
    obtain ⟨h1, h2⟩ := lM_keys l kn i
    have h3 : ∀ q ∈ lM l kn i, q.1 = q.2.n ∧ q.2 ∈ l.take (i + 1) ∧ q.2.k ≤ kn := fun q hq => by
      obtain ⟨a, b, c⟩ := h2 q hq
      exact ⟨a, by rw [List.take_add_one]; exact List.mem_append_left _ b, c⟩
    cases ho : l[i]? with
    | none => unfold lM; rw [ho]; exact ⟨h1, h3⟩
    | some o =>
      by_cases hk : o.k ≤ kn
      · rw [lM_in ho hk]
        refine ⟨h1.put _ _, fun q hq => ?_⟩
        rcases alPut_mem hq with rfl | hq
        · exact ⟨rfl, by rw [List.take_add_one, ho]; simp, hk⟩
        · exact h3 q hq
      · rw [lM_out ho hk]; exact ⟨h1, h3⟩
theorem lM_len (l : List Ord) (kn : Int) : ∀ i, (lM l kn i).length ≤ i
  | 0 => Nat.le_refl _
  | i + 1 => by
    have := lM_len l kn i
    cases ho : l[i]? with
    | none => unfold lM; rw [ho]; simp only; omega
    | some o =>
      by_cases hk : o.k ≤ kn
      · rw [lM_in ho hk]; have h2 := alPut_length o.n o (lM l kn i); omega
      · rw [lM_out ho hk]; omega
theorem cM_none {l : List Ord} {k : Nat} {p : ByteArray} {kn : Int} (h : l[k]? = none) : cM l p kn (k + 1) = cM l p kn k := by conv => lhs; unfold cM; rw [h]
theorem lM_none {l : List Ord} {k : Nat} {kn : Int} (h : l[k]? = none) : lM l kn (k + 1) = lM l kn k := by conv => lhs; unfold lM; rw [h]
theorem cM_yes {l : List Ord} {k : Nat} {x : Ord} {p : ByteArray} {kn : Int} (hx : l[k]? = some x) (h1 : x.p = p) (h2 : x.k ≤ kn) : cM l p kn (k + 1) = alPut x.n x (cM l p kn k) := by
  conv => lhs; unfold cM
  simp [hx, h1, h2]
theorem cM_no {l : List Ord} {k : Nat} {x : Ord} {p : ByteArray} {kn : Int} (hx : l[k]? = some x) (h : ¬ (x.p = p ∧ x.k ≤ kn)) : cM l p kn (k + 1) = cM l p kn k := by
  conv => lhs; unfold cM
  simp only [hx]
  rw [if_neg (by simpa using h)]
theorem cM_lM {l : List Ord} {p : ByteArray} {kn : Int} {a : Int} {x : Ord} : ∀ {k : Nat}, okB l k = true → alFind a (cM l p kn k) = some x → alFind a (lM l kn k) = some x
  | 0, _, h => by simp [cM, alFind] at h
  | k + 1, hok, h => by
    have h0 := okB_le hok (show k ≤ k + 1 by omega)
    cases ho : l[k]? with
    | none => rw [cM_none ho] at h; rw [lM_none ho]; exact cM_lM h0 h
    | some o =>
      by_cases hk : o.k ≤ kn
      · by_cases hp : o.p = p
        · rw [cM_yes ho hp hk] at h
          rw [lM_in ho hk]
          by_cases e : a = o.n
          · subst e; rw [alFind_put_self] at h ⊢; exact h
          · rw [alFind_put_ne _ e] at h ⊢; exact cM_lM h0 h
        · rw [cM_no ho (fun h => hp h.1)] at h
          rw [lM_in ho hk]
          by_cases e : a = o.n
          · obtain ⟨e1, hm, hp2, _⟩ := (cM_keys l p kn k).2 _ (alFind_mem h)
            have hx : x ∈ l.take (k + 1) := by rw [List.take_add_one]; exact List.mem_append_left _ hm
            have hoo : o ∈ l.take (k + 1) := by rw [List.take_add_one, ho]; simp
            have := ok_fit hok hx hoo (by simp only at e1; rw [← e1, e])
            exact absurd (this.1.symm.trans hp2) hp
          · rw [alFind_put_ne _ e]; exact cM_lM h0 h
      · rw [cM_no ho (fun h => hk h.2)] at h
        rw [lM_out ho hk]; exact cM_lM h0 h
theorem lM_cM {l : List Ord} {p : ByteArray} {kn : Int} {a : Int} {x : Ord} (hp : x.p = p) : ∀ {k : Nat}, alFind a (lM l kn k) = some x → alFind a (cM l p kn k) = some x
  | 0, h => by simp [lM, alFind] at h
  | k + 1, h => by
    cases ho : l[k]? with
    | none => rw [lM_none ho] at h; rw [cM_none ho]; exact lM_cM hp h
    | some o =>
      by_cases hk : o.k ≤ kn
      · rw [lM_in ho hk] at h
        by_cases e : a = o.n
        · subst e
          rw [alFind_put_self] at h
          injection h with h
          subst h
          rw [cM_yes ho hp hk, alFind_put_self]
        · rw [alFind_put_ne _ e] at h
          have ih := lM_cM hp h
          by_cases hop : o.p = p
          · rw [cM_yes ho hop hk, alFind_put_ne _ e]; exact ih
          · rw [cM_no ho (fun h => hop h.1)]; exact ih
      · rw [lM_out ho hk] at h
        rw [cM_no ho (fun h => hk h.2)]; exact lM_cM hp h
/-- The numbers of the first ones are marked. -/
def seM (r : List Ord) : Nat → List (Int × Bool)
  | 0 => []
  | i + 1 => match r[i]? with
    | some o => alPut o.n true (seM r i)
    | none => seM r i
theorem seM_succ {r : List Ord} {k : Nat} {x : Ord} (h : r[k]? = some x) : seM r (k + 1) = alPut x.n true (seM r k) := by
  conv => lhs; unfold seM
  simp [h]
theorem seM_find {r : List Ord} (a : Int) : ∀ k, alFind a (seM r k) = if (r.take k).any (fun x => x.n == a) then some true else none
  | 0 => by simp [seM, alFind]
  | k + 1 => by
    cases hr : r[k]? with
    | none => unfold seM; rw [hr, List.take_add_one, hr]; simpa using seM_find a k
    | some o =>
      rw [seM_succ hr, List.take_add_one, hr, List.any_append]
      by_cases e : a = o.n
      · subst e; rw [alFind_put_self]; simp
      · rw [alFind_put_ne _ e, seM_find a k]
        have : (o.n == a) = false := by rw [beq_eq_false_iff_ne]; exact fun h => e h.symm
        simp [this]
theorem open_nodup (l : List Ord) (p : ByteArray) (mo kn : Int) : ((openL l p mo kn).map (·.n)).Nodup := by
  unfold openL
  split
  · exact ((sortO_perm _).map _).nodup_iff.2 (opened_nodup _ _)
  · exact List.nodup_nil
theorem not_seen {l : List Ord} {p : ByteArray} {mo kn : Int} {k : Nat} {x : Ord} (h : (openL l p mo kn)[k]? = some x) : alFind x.n (seM (openL l p mo kn) k) = none := by
  rw [seM_find, if_neg]
  intro hany
  rw [List.any_eq_true] at hany
  obtain ⟨y, hy, e⟩ := hany
  obtain ⟨j, hj⟩ := List.mem_iff_getElem?.1 hy
  rw [List.getElem?_take] at hj
  split at hj
  · rename_i hjk
    have hn := open_nodup l p mo kn
    have h1 : ((openL l p mo kn).map (·.n))[j]? = some y.n := by rw [List.getElem?_map, hj]; rfl
    have h2 : ((openL l p mo kn).map (·.n))[k]? = some x.n := by rw [List.getElem?_map, h]; rfl
    have e' : y.n = x.n := by simpa using e
    rw [e'] at h1
    obtain ⟨l1, e1⟩ := List.getElem?_eq_some_iff.1 h1
    obtain ⟨l2, e2⟩ := List.getElem?_eq_some_iff.1 h2
    exact List.pairwise_iff_getElem.1 hn j k l1 l2 hjk (e1.trans e2.symm)
  · cases hj
theorem form_m {o : Ord} (h : formB o = true) : 0 ≤ o.m := by
  unfold formB numsB at h
  simp only [Bool.and_eq_true, decide_eq_true_eq] at h
  omega
theorem valid_form {l : List Ord} (hv : validB l = true) {x : Ord} (hx : x ∈ l) : formB x = true := by
  obtain ⟨i, hi⟩ := List.mem_iff_getElem?.1 hx
  have hg := okB_at (valid_len hv).2 (List.getElem?_eq_some_iff.1 hi).1 hi
  unfold goodB at hg
  simp only [Bool.and_eq_true] at hg
  exact hg.1.1.1
theorem open_last {l : List Ord} {p : ByteArray} {mo kn : Int} {x : Ord} (hv : validB l = true) (h : x ∈ openL l p mo kn) : alFind x.n (lM l kn l.length) = some x := cM_lM (valid_len hv).2 ((mem_openL hv).1 h).1
theorem last_open {l : List Ord} {p : ByteArray} {mo kn : Int} {q : Int × Ord} (hv : validB l = true) (h : q ∈ lM l kn l.length) (hp : q.2.p = p) (hf : q.2.f ≤ mo) (hm : 0 < q.2.m) : q.2 ∈ openL l p mo kn := by
  obtain ⟨hk, hq⟩ := lM_keys l kn l.length
  rw [mem_openL hv]
  refine ⟨lM_cM hp (mem_alFind hk (by rw [← (hq q h).1]; exact h)), ?_⟩
  unfold opB
  rw [decide_eq_true hf, Bool.true_and, bne_iff_ne]
  omega
end WageOrd
