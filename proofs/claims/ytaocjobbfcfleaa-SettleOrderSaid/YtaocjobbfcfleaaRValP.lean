/-
  The reference's Valid in plain words.
-/
import Derived.Test.YtaocjobbfcfleaaRStd
namespace WageSet
def raB (d : Desk) (k : Nat) (a : Ans) : Bool := ansB a && prevQ d.an k a && hasId d.ss a.id
def rsB (d : Desk) (k : Nat) (s : Sta) : Bool := payB s.p && decide (findI d.ss s.p.id = k) && rstB s.p d.an && decide (s = staS s.p (tal s.p.id d.an))
theorem pays_at {d : Desk} {k : Nat} {s : Sta} (h : d.ss[k]? = some s) : (paysOf d)[k]? = some s.p := by unfold paysOf; rw [List.getElem?_map, h]; rfl
theorem pays_take (d : Desk) (k : Nat) (id : Int) : (((paysOf d).take k).any fun x => x.id == id) = hasId (d.ss.take k) id := by
  unfold paysOf hasId
  rw [← List.map_take, List.any_map]; rfl
theorem pays_len (d : Desk) : (paysOf d).length = d.ss.length := by unfold paysOf; rw [List.length_map]
theorem rv_a {d : Desk} {k : Nat} {a : Ans} (h : d.an[k]? = some a) (hb : raB d k a = false) : validB d = false := by
  cases hv : validB d with
  | false => rfl
  | true =>
    exfalso
    obtain ⟨h1, h2, h3, h4⟩ := valid_parts hv
    obtain ⟨p1, p2, p3⟩ := stand_parts h3
    have hk := (List.getElem?_eq_some_iff.1 h).1
    obtain ⟨a1, a2, a3⟩ := asB_at p2 hk h
    have a4 : hasId d.ss a.id = true := by
      cases e : hasId d.ss a.id with
      | true => rfl
      | false =>
        have := pays_take d (paysOf d).length a.id
        rw [List.take_of_length_le (l := d.ss) (by rw [pays_len]; exact Nat.le_refl _), e] at this
        rw [day_no (findP_none this)] at a2
        cases a2
    unfold raB at hb
    rw [a1, a3, a4] at hb
    cases hb
theorem rv_s {d : Desk} {k : Nat} {s : Sta} (h : d.ss[k]? = some s) (hb : rsB d k s = false) : validB d = false := by
  cases hv : validB d with
  | false => rfl
  | true =>
    exfalso
    obtain ⟨h1, h2, h3, h4⟩ := valid_parts hv
    obtain ⟨p1, p2, p3⟩ := stand_parts h3
    obtain ⟨s1, s2, s3⟩ := valid_sta hv (List.mem_of_getElem? h)
    have hk : k < (paysOf d).length := by rw [pays_len]; exact (List.getElem?_eq_some_iff.1 h).1
    have hd := (psB_at p1 hk (pays_at h)).2
    rw [pays_take] at hd
    have hf := findI_hit h hd rfl
    have hdy : daysB s.p d.an = true := by
      unfold daysB
      rw [List.all_eq_true]
      intro a ha
      obtain ⟨i, hi⟩ := List.mem_iff_getElem?.1 ha
      by_cases e : a.id = s.p.id
      · have a2 := (asB_at p2 (List.getElem?_eq_some_iff.1 hi).1 hi).2.1
        rw [dayAt (findP_at p1 (pays_at h) e.symm) rfl] at a2
        simp [e]; exact of_decide_eq_true a2
      · simp [e]
    unfold rsB at hb
    rw [s1, hf, rst_yes hdy s3, decide_eq_true s2] at hb
    simp at hb
theorem rv_ok {d : Desk} (hn : d.ss.length ≤ 400) (hm : d.an.length ≤ 2000) (ha : ∀ k a, d.an[k]? = some a → raB d k a = true) (hs : ∀ k s, d.ss[k]? = some s → rsB d k s = true) : validB d = true := by
  have hs' : ∀ (k : Nat) (s : Sta), d.ss[k]? = some s → payB s.p = true ∧ findI d.ss s.p.id = (k : Int) ∧ rstB s.p d.an = true ∧ s = staS s.p (tal s.p.id d.an) := fun k s h => by
    have := hs k s h
    unfold rsB at this
    simp only [Bool.and_eq_true, decide_eq_true_eq] at this
    exact ⟨this.1.1.1, this.1.1.2, this.1.2, this.2⟩
  have ha' : ∀ (k : Nat) (a : Ans), d.an[k]? = some a → ansB a = true ∧ prevQ d.an k a = true ∧ hasId d.ss a.id = true := fun k a h => by
    have := ha k a h
    unfold raB at this
    simp only [Bool.and_eq_true] at this
    exact ⟨this.1.1, this.1.2, this.2⟩
  have hdis : ∀ (k : Nat) (s : Sta), d.ss[k]? = some s → hasId (d.ss.take k) s.p.id = false := fun k s h => by
    cases e : hasId (d.ss.take k) s.p.id with
    | false => rfl
    | true =>
      exfalso
      have hf := (hs' k s h).2.1
      unfold hasId at e
      rw [List.any_eq_true] at e
      obtain ⟨x, hx, hxe⟩ := e
      obtain ⟨i, hi, rfl⟩ := List.mem_take_iff_getElem.1 hx
      have hxe' : (d.ss[i]'(by omega)).p.id = s.p.id := by simpa using hxe
      have := (hs' i _ (List.getElem?_eq_getElem (by omega))).2.1
      rw [hxe', hf] at this
      omega
  have hps : ∀ k, k ≤ (paysOf d).length → psB (paysOf d) k = true := by
    intro k
    induction k with
    | zero => intro _; rfl
    | succ k ih =>
      intro hk
      have hk' : k < d.ss.length := by rw [pays_len] at hk; omega
      have h := List.getElem?_eq_getElem hk'
      exact psB_succ (ih (by omega)) (pays_at h) (hs' k _ h).1 (by rw [pays_take]; exact hdis k _ h)
  have hst : ∀ k, k ≤ (paysOf d).length → stB (paysOf d) d.an k = true := by
    intro k
    induction k with
    | zero => intro _; rfl
    | succ k ih =>
      intro hk
      have hk' : k < d.ss.length := by rw [pays_len] at hk; omega
      have h := List.getElem?_eq_getElem hk'
      have hr := (hs' k _ h).2.2.1
      unfold rstB at hr
      simp only [Bool.and_eq_true] at hr
      exact stB_succ (ih (by omega)) (pays_at h) hr.2
  have has : ∀ k, k ≤ d.an.length → asB (paysOf d) d.an k = true := by
    intro k
    induction k with
    | zero => intro _; rfl
    | succ k ih =>
      intro hk
      have h := List.getElem?_eq_getElem (show k < d.an.length by omega)
      obtain ⟨a1, a2, a3⟩ := ha' k _ h
      refine asB_succ (ih (by omega)) h a1 ?_ a2
      unfold hasId at a3
      rw [List.any_eq_true] at a3
      obtain ⟨s, hsm, hse⟩ := a3
      obtain ⟨j, hj⟩ := List.mem_iff_getElem?.1 hsm
      have hse' : s.p.id = d.an[k].id := by simpa using hse
      refine dayAt (findP_at (hps _ (Nat.le_refl _)) (pays_at hj) hse') ?_
      have hr := (hs' j s hj).2.2.1
      unfold rstB daysB at hr
      simp only [Bool.and_eq_true, List.all_eq_true] at hr
      have := hr.1 _ (List.mem_of_getElem? h)
      simp [hse'.symm] at this
      exact decide_eq_true this
  have hL : standL (paysOf d) d.an = d.ss := by
    apply List.ext_getElem?
    intro i
    unfold standL paysOf
    rw [List.map_map, List.getElem?_map]
    cases h : d.ss[i]? with
    | none => rfl
    | some s => exact congrArg some (hs' i s h).2.2.2.symm
  unfold validB standOk
  rw [hps _ (Nat.le_refl _), has _ (Nat.le_refl _), hst _ (Nat.le_refl _), decide_eq_true hn, decide_eq_true hm, decide_eq_true hL]
  rfl
end WageSet
