/-
  The reference's Apply in plain words: one standing is made anew.
-/
import Derived.Test.YtaocjobbfcfleaaRSd
namespace WageSet
open WageOrd WageMap

theorem posA_at {q : Int} : ∀ {l : List Ans} {i : Nat}, i ≤ l.length → (∀ t y, t < i → l[t]? = some y → y.q < q) → (∀ y, l[i]? = some y → ¬ y.q < q) → posA q l = i
  | [], i, hi, _, _ => by simp at hi; subst hi; rfl
  | a :: l, 0, _, _, h2 => by
    have := h2 a rfl
    unfold posA
    rw [List.takeWhile_cons_of_neg (by simpa using this)]; rfl
  | a :: l, i + 1, hi, h1, h2 => by
    have := h1 0 a (by omega) rfl
    have ih := posA_at (q := q) (l := l) (i := i) (by simpa using hi) (fun t y ht hy => h1 (t + 1) y (by omega) (by simpa using hy)) (fun y hy => h2 y (by simpa using hy))
    unfold posA at ih ⊢
    rw [List.takeWhile_cons_of_pos (by simpa using this), List.length_cons, ih]
theorem insA_at {a : Ans} {l : List Ans} {k : Nat} (h : posA a.q l = k) : insA a l = l.take k ++ a :: l.drop k := by unfold insA; rw [h]
theorem stand_none {ps : List Pay} {a : Ans} {l : List Ans} (h : findP ps a.id = none) : standOk ps (insA a l) = false := by
  rw [Bool.eq_false_iff]
  intro hs
  have h1 := ((stand_mem hs).2.1 a (insA_mem.2 (.inl rfl))).2
  unfold dayOk at h1
  rw [h] at h1; cases h1
theorem rst_stand {d : Desk} {a : Ans} {p : Pay} (hv : validB d = true) (ha : ansB a = true) (hf : foundA a.q d.an = false) (hp : findP (paysOf d) a.id = some p) (hid : p.id = a.id) :
    rstB p (insA a d.an) = standOk (paysOf d) (insA a d.an) := by
  obtain ⟨s1, s2, s3, s4⟩ := stand_mem (valid_parts hv).2.2.1
  have hsq := insA_sq s3 hf
  rw [Bool.eq_iff_iff]
  constructor
  · intro h
    unfold rstB at h
    rw [Bool.and_eq_true] at h
    obtain ⟨h1, h2⟩ := h
    refine stand_of s1 (fun x hx => ?_) hsq fun q hq => ?_
    · rcases insA_mem.1 hx with rfl | hx
      · refine ⟨ha, ?_⟩
        unfold dayOk
        rw [hp]
        unfold daysB at h1
        rw [List.all_eq_true] at h1
        have := h1 x (insA_mem.2 (.inl rfl))
        rw [Bool.or_eq_true] at this
        rcases this with h | h
        · rw [Bool.not_eq_true', decide_eq_false_iff_not] at h; exact absurd hid.symm h
        · exact h
      · exact s2 x hx
    · by_cases e : q.id = a.id
      · have hqp : findP (paysOf d) a.id = some q := by
          obtain ⟨j, hj⟩ := List.mem_iff_getElem?.1 hq
          exact findP_at s1 hj e
        rw [hp] at hqp
        injection hqp with hqp
        subst hqp
        exact h2
      · rw [tal_ins (fun h => e h.symm)]; exact s4 q hq
  · intro h
    obtain ⟨t1, t2, t3, t4⟩ := stand_mem h
    have hpm := List.mem_of_find?_eq_some hp
    refine rst_yes ?_ (t4 p hpm)
    unfold daysB
    rw [List.all_eq_true]
    intro x hx
    rw [Bool.or_eq_true]
    by_cases e : x.id = p.id
    · right
      have h1 := (t2 x hx).2
      unfold dayOk at h1
      rw [e, hid, hp] at h1
      exact h1
    · left; simpa using e
theorem set_standL {d : Desk} {a : Ans} {k : Nat} {s : Sta} (hv : validB d = true) (hs : d.ss[k]? = some s) (hid : s.p.id = a.id) :
    d.ss.set k (staS s.p (tal s.p.id (insA a d.an))) = standL (paysOf d) (insA a d.an) := by
  obtain ⟨s1, _, _, _⟩ := stand_mem (valid_parts hv).2.2.1
  apply List.ext_getElem?
  intro i
  unfold standL
  rw [List.getElem?_map, List.getElem?_set]
  have hk := (List.getElem?_eq_some_iff.1 hs).1
  by_cases e : k = i
  · subst e
    rw [if_pos rfl, if_pos hk, pays_at hs]; rfl
  · rw [if_neg e]
    cases hi : d.ss[i]? with
    | none =>
      have : (paysOf d)[i]? = none := by unfold paysOf; rw [List.getElem?_map, hi]; rfl
      rw [this]; rfl
    | some t =>
      rw [pays_at hi]
      have hne := ids_ne s1 (i := k) (j := i) (p := s.p) (q := t.p) (List.getElem?_eq_some_iff.1 (pays_at hs)).1 (List.getElem?_eq_some_iff.1 (pays_at hi)).1 (pays_at hs) (pays_at hi) e
      rw [Option.map_some, tal_ins (by omega)]
      exact congrArg some (valid_sta hv (List.mem_of_getElem? hi)).2.1
theorem wf_set {l : List Sta} {ps : List Pay} {zs : List Ans} (hp : ps = l.map (·.p)) (h : ∀ s ∈ l, s.p.acc.size ≤ Go.maxLen) : ∀ s ∈ standL ps zs, s.p.acc.size ≤ Go.maxLen := by
  intro s hs
  unfold standL at hs
  obtain ⟨p, hp', rfl⟩ := List.mem_map.1 hs
  rw [hp] at hp'
  obtain ⟨t, ht, rfl⟩ := List.mem_map.1 hp'
  exact h t ht
theorem has_find {d : Desk} (id : Int) (h : hasId d.ss id = false) : findP (paysOf d) id = none := findP_none (by rw [List.take_length, any_hasId]; exact h)
end WageSet
namespace Go.Proofs.Ytaocjobbfcfleaa
open Go.RowKit Go.Proofs WageMem WageOrd WageRec WageSet
theorem flat_set7 (s : Sta) : ∀ (l : List Sta) (k : Nat), k < l.length →
    ((((((((l.flatMap se).set (k * 7) (.int .i64 s.p.id)).set (k * 7 + 1) (.string s.p.acc)).set (k * 7 + 2) (.int .i64 s.p.c)).set (k * 7 + 3) (.int .i64 s.p.d)).set (k * 7 + 4) (.int .i64 s.st)).set (k * 7 + 5) (.int .i64 s.pd)).set (k * 7 + 6) (.int .i64 s.bk)) = (l.set k s).flatMap se
  | [], k, h => by simp at h
  | x :: l, 0, _ => rfl
  | x :: l, k + 1, h => by
    have ih := flat_set7 s l k (by simpa using h)
    rw [List.set_cons_succ, List.flatMap_cons, List.flatMap_cons, ← ih]
    rw [show (k + 1) * 7 = k * 7 + 7 by omega]
    simp only [show ∀ i, k * 7 + 7 + i = k * 7 + i + 7 from fun i => by omega]
    rfl
theorem seven {w : World} {g j : Nat} {e : TypeId} (v0 v1 v2 v3 v4 v5 v6 : Value) {base : Nat} {size n cap : Nat} {xs : List Value} (h : w.ownsRow base e size (.slice (some ⟨g, 0, none⟩) n cap) n xs) :
    (((((((w.setCell ⟨g, j, none⟩ v0).setCell ⟨g, j + 1, none⟩ v1).setCell ⟨g, j + 2, none⟩ v2).setCell ⟨g, j + 3, none⟩ v3).setCell ⟨g, j + 4, none⟩ v4).setCell ⟨g, j + 5, none⟩ v5).setCell ⟨g, j + 6, none⟩ v6).ownsRow base e size (.slice (some ⟨g, 0, none⟩) n cap) n
      (((((((xs.set j v0).set (j + 1) v1).set (j + 2) v2).set (j + 3) v3).set (j + 4) v4).set (j + 5) v5).set (j + 6) v6) :=
  (((((((h.stored j v0).1.stored (j + 1) v1).1.stored (j + 2) v2).1.stored (j + 3) v3).1.stored (j + 4) v4).1.stored (j + 5) v5).1.stored (j + 6) v6).1
theorem seven_far {w : World} {g j b : Nat} (v0 v1 v2 v3 v4 v5 v6 : Value) (hb : b < w.heap.size) (hne : b ≠ g) :
    (((((((w.setCell ⟨g, j, none⟩ v0).setCell ⟨g, j + 1, none⟩ v1).setCell ⟨g, j + 2, none⟩ v2).setCell ⟨g, j + 3, none⟩ v3).setCell ⟨g, j + 4, none⟩ v4).setCell ⟨g, j + 5, none⟩ v5).setCell ⟨g, j + 6, none⟩ v6).heap[b]? = w.heap[b]? := by
  have step : ∀ (w : World) (i : Nat) (v : Value), b < w.heap.size → (w.setCell ⟨g, i, none⟩ v).heap[b]? = w.heap[b]? ∧ b < (w.setCell ⟨g, i, none⟩ v).heap.size := fun w i v h =>
    ⟨(set_grown w g i v).block b h (fun e => hne (by injection e)), Nat.lt_of_lt_of_le h (set_grown w g i v).size⟩
  have a0 := step w j v0 hb
  have a1 := step _ (j + 1) v1 a0.2
  have a2 := step _ (j + 2) v2 a1.2
  have a3 := step _ (j + 3) v3 a2.2
  have a4 := step _ (j + 4) v4 a3.2
  have a5 := step _ (j + 5) v5 a4.2
  have a6 := step _ (j + 6) v6 a5.2
  exact (((((a6.1.trans a5.1).trans a4.1).trans a3.1).trans a2.1).trans a1.1).trans a0.1
theorem seven_keep {w : World} {g j : Nat} {e : TypeId} (v0 v1 v2 v3 v4 v5 v6 : Value) {base : Nat} {size n : Nat} {v : Value} {xs : List Value} (h : w.ownsRow base e size v n xs) (hne : v.ownBlock ≠ some g) :
    (((((((w.setCell ⟨g, j, none⟩ v0).setCell ⟨g, j + 1, none⟩ v1).setCell ⟨g, j + 2, none⟩ v2).setCell ⟨g, j + 3, none⟩ v3).setCell ⟨g, j + 4, none⟩ v4).setCell ⟨g, j + 5, none⟩ v5).setCell ⟨g, j + 6, none⟩ v6).ownsRow base e size v n xs := by
  have k : ∀ k, some g = some k → v.ownBlock ≠ some k := fun k hk h9 => by injection hk with hk; subst hk; exact hne h9
  exact own_keep (own_keep (own_keep (own_keep (own_keep (own_keep (own_keep h (set_grown _ g _ _) k) (set_grown _ g _ _) k) (set_grown _ g _ _) k) (set_grown _ g _ _) k) (set_grown _ g _ _) k) (set_grown _ g _ _) k) (set_grown _ g _ _) k
theorem seven_grew {w0 w : World} {g j : Nat} (v0 v1 v2 v3 v4 v5 v6 : Value) (h : Grew w0 w) (hg : w0.heap.size ≤ g) :
    Grew w0 (((((((w.setCell ⟨g, j, none⟩ v0).setCell ⟨g, j + 1, none⟩ v1).setCell ⟨g, j + 2, none⟩ v2).setCell ⟨g, j + 3, none⟩ v3).setCell ⟨g, j + 4, none⟩ v4).setCell ⟨g, j + 5, none⟩ v5).setCell ⟨g, j + 6, none⟩ v6) :=
  ((((((h.set (p := ⟨g, j, none⟩) hg v0).set (p := ⟨g, j + 1, none⟩) hg v1).set (p := ⟨g, j + 2, none⟩) hg v2).set (p := ⟨g, j + 3, none⟩) hg v3).set (p := ⟨g, j + 4, none⟩) hg v4).set (p := ⟨g, j + 5, none⟩) hg v5).set (p := ⟨g, j + 6, none⟩) hg v6
end Go.Proofs.Ytaocjobbfcfleaa
