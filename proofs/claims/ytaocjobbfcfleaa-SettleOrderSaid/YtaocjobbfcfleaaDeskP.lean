/-
  Desks in plain words: what a valid desk is; Send, Apply, Spent.
-/
import Derived.Test.YtaocjobbfcfleaaStP
namespace WageSet
open WageOrd WageMap

theorem valid_parts {d : Desk} (h : validB d = true) : d.ss.length ≤ 400 ∧ d.an.length ≤ 2000 ∧ standOk (paysOf d) d.an = true ∧ standL (paysOf d) d.an = d.ss := by
  unfold validB at h
  simp only [Bool.and_eq_true, decide_eq_true_eq] at h
  exact ⟨h.1.1.1, h.1.1.2, h.1.2, h.2⟩
theorem stand_parts {ps : List Pay} {zs : List Ans} (h : standOk ps zs = true) : psB ps ps.length = true ∧ asB ps zs zs.length = true ∧ stB ps zs ps.length = true := by
  unfold standOk at h
  simp only [Bool.and_eq_true] at h
  exact ⟨h.1.1, h.1.2, h.2⟩
theorem pay_parts {p : Pay} (h : payB p = true) : (0 ≤ p.id ∧ p.id ≤ 400000000000) ∧ nameB p.acc = true ∧ p.acc ≠ transit ∧ p.acc ≠ bank ∧ (1 ≤ p.c ∧ p.c ≤ 1000000000000) ∧ (0 ≤ p.d ∧ p.d ≤ 36524) := by
  unfold payB numB centB dayB at h
  simp only [Bool.and_eq_true, decide_eq_true_eq, Bool.not_eq_true', decide_eq_false_iff_not] at h
  obtain ⟨⟨⟨⟨⟨h1, h2⟩, h3⟩, h4⟩, h5⟩, h6⟩ := h
  exact ⟨h1, h2, h3, h4, h5, h6⟩
theorem ans_parts {a : Ans} (h : ansB a = true) : (0 ≤ a.q ∧ a.q ≤ 400000000000) ∧ (0 ≤ a.id ∧ a.id ≤ 400000000000) ∧ (0 ≤ a.d ∧ a.d ≤ 36524) ∧ (((a.k = 2 ∨ a.k = 4) ∧ 1 ≤ a.c ∧ a.c ≤ 1000000000000) ∨ ((a.k = 1 ∨ a.k = 3) ∧ a.c = 0)) := by
  unfold ansB numB centB dayB at h
  simp only [Bool.and_eq_true, decide_eq_true_eq] at h
  obtain ⟨⟨⟨h1, h2⟩, h3⟩, h4⟩ := h
  refine ⟨h1, h2, h3, ?_⟩
  split at h4
  · rename_i hk
    simp only [Bool.and_eq_true, decide_eq_true_eq] at h4
    exact .inl ⟨hk, h4⟩
  · simp only [Bool.and_eq_true, decide_eq_true_eq] at h4
    exact .inr h4
theorem okT_parts {p : Pay} {t : Tal} (h : okT p t = true) : t.rf ≤ 1 ∧ (0 < t.rf → t.pd ≤ 0) ∧ t.bk ≤ t.pd ∧ t.pd ≤ p.c := by
  unfold okT at h
  simp only [Bool.and_eq_true, Bool.not_eq_true', Bool.or_eq_false_iff, Bool.and_eq_false_iff, decide_eq_false_iff_not, decide_eq_true_eq] at h
  omega
theorem valid_sta {d : Desk} (h : validB d = true) {s : Sta} (hs : s ∈ d.ss) : payB s.p = true ∧ s = staS s.p (tal s.p.id d.an) ∧ okT s.p (tal s.p.id d.an) = true := by
  obtain ⟨_, _, h3, h4⟩ := valid_parts h
  obtain ⟨h5, h6, h7⟩ := stand_parts h3
  obtain ⟨i, hi⟩ := List.mem_iff_getElem?.1 hs
  have hp : (paysOf d)[i]? = some s.p := by unfold paysOf; rw [List.getElem?_map, hi]; rfl
  have hl : i < (paysOf d).length := (List.getElem?_eq_some_iff.1 hp).1
  refine ⟨(psB_at h5 hl hp).1, ?_, stB_at h7 hl hp⟩
  have := congrArg (·[i]?) h4
  simp only [standL, List.getElem?_map, hp, Option.map_some, hi, Option.some.injEq] at this
  exact this.symm
theorem sta_bound {d : Desk} (h : validB d = true) {s : Sta} (hs : s ∈ d.ss) : 0 ≤ s.bk ∧ s.bk ≤ s.pd ∧ s.pd ≤ s.p.c ∧ 1 ≤ s.p.c ∧ s.p.c ≤ 1000000000000 := by
  obtain ⟨h1, h2, h3⟩ := valid_sta h hs
  obtain ⟨_, hm, h4, _⟩ := valid_parts h
  have hb := tal_bound (stand_parts h4).2.1 (by omega) s.p.id
  rw [List.take_length] at hb
  have h5 := hb _ (.tail _ (.head _))
  have h6 := okT_parts h3
  have h7 := (pay_parts h1).2.2.2.2.1
  have e1 : s.bk = (tal s.p.id d.an).bk := congrArg Sta.bk h2
  have e2 : s.pd = (tal s.p.id d.an).pd := congrArg Sta.pd h2
  omega

/-! ### Spent -/
def spF (acc : ByteArray) (s : Sta) : Int := if s.p.acc = acc ∧ s.st ≠ 4 then s.p.c - s.bk else 0
def spentL (d : Desk) (acc : ByteArray) : Int := if validB d then sm (spF acc) d.ss else 0
theorem spF_bound {d : Desk} (h : validB d = true) (acc : ByteArray) {s : Sta} (hs : s ∈ d.ss) : 0 ≤ spF acc s ∧ spF acc s ≤ 1000000000000 := by
  have := sta_bound h hs
  unfold spF
  split <;> omega
theorem sm_sp_bound {d : Desk} (h : validB d = true) (acc : ByteArray) (k : Nat) : 0 ≤ sm (spF acc) (d.ss.take k) ∧ sm (spF acc) (d.ss.take k) ≤ 1000000000000 * 400 := by
  refine ⟨sm_nonneg fun s hs => (spF_bound h acc (List.mem_of_mem_take hs)).1, ?_⟩
  have h1 := sm_le (m := 1000000000000) (l := d.ss.take k) fun s hs => (spF_bound h acc (List.mem_of_mem_take hs)).2
  have h2 := (valid_parts h).1
  have h3 : (d.ss.take k).length ≤ 400 := by rw [List.length_take]; omega
  omega
theorem sm_take {α : Type} (f : α → Int) {l : List α} {k : Nat} {x : α} (h : l[k]? = some x) : sm f (l.take (k + 1)) = sm f (l.take k) + f x := by
  rw [List.take_add_one, h]; exact sm_snoc _ _ _

/-! ### Send -/
def hasId (l : List Sta) (id : Int) : Bool := l.any fun s => s.p.id == id
def sendE (d : Desk) (p : Pay) : Int := if validB d && payB p then (if hasId d.ss p.id then 5 else if 400 ≤ d.ss.length then 2 else 0) else 1
def sendD (d : Desk) (p : Pay) : Desk := if sendE d p = 0 then ⟨d.ss ++ [⟨p, 1, 0, 0⟩], d.an⟩ else ⟨[], []⟩
theorem send_bad {d : Desk} {p : Pay} (h : (validB d && payB p) = false) : sendE d p = 1 := by unfold sendE; rw [h]; rfl
theorem send_two {d : Desk} {p : Pay} (h : (validB d && payB p) = true) (h2 : hasId d.ss p.id = true) : sendE d p = 5 := by unfold sendE; rw [h, h2]; rfl
theorem send_lim {d : Desk} {p : Pay} (h : (validB d && payB p) = true) (h2 : hasId d.ss p.id = false) (h3 : 400 ≤ d.ss.length) : sendE d p = 2 := by unfold sendE; rw [h, h2]; simp [h3]
theorem send_ok {d : Desk} {p : Pay} (h : (validB d && payB p) = true) (h2 : hasId d.ss p.id = false) (h3 : ¬ 400 ≤ d.ss.length) : sendE d p = 0 := by unfold sendE; rw [h, h2]; simp [h3]
theorem sendD_no {d : Desk} {p : Pay} {e : Int} (h : sendE d p = e) (he : e ≠ 0) : sendD d p = ⟨[], []⟩ := by unfold sendD; rw [if_neg (by rw [h]; exact he)]
theorem sendD_ok {d : Desk} {p : Pay} (h : sendE d p = 0) : sendD d p = ⟨d.ss ++ [⟨p, 1, 0, 0⟩], d.an⟩ := by unfold sendD; rw [if_pos h]
theorem hasId_none {l : List Sta} {k : Nat} {x : Sta} {id : Int} (h : l[k]? = some x) (h1 : hasId (l.take k) id = false) (h2 : x.p.id ≠ id) : hasId (l.take (k + 1)) id = false := by
  unfold hasId at *
  rw [List.take_add_one, h, List.any_append, h1]
  simpa using h2
theorem hasId_yes {l : List Sta} {k : Nat} {x : Sta} {id : Int} (h : l[k]? = some x) (h2 : x.p.id = id) : hasId l id = true := by
  unfold hasId
  rw [List.any_eq_true]
  exact ⟨x, List.mem_of_getElem? h, by simpa using h2⟩

/-! ### Apply -/
/-- The answers before a number. -/
def posA (q : Int) (l : List Ans) : Nat := (l.takeWhile fun a => decide (a.q < q)).length
def insA (a : Ans) (l : List Ans) : List Ans := l.take (posA a.q l) ++ a :: l.drop (posA a.q l)
/-- The number is there already. -/
def foundA (q : Int) (l : List Ans) : Bool := match l[posA q l]? with
  | some b => decide (b.q = q)
  | none => false
def applyE (d : Desk) (a : Ans) : Int :=
  if validB d && ansB a then
    (if foundA a.q d.an then (if d.an[posA a.q d.an]? = some a then 0 else 5)
    else if 2000 ≤ d.an.length then 2 else if standOk (paysOf d) (insA a d.an) then 0 else 401)
  else 1
def applyD (d : Desk) (a : Ans) : Desk := if applyE d a = 0 then (if foundA a.q d.an then d else ⟨standL (paysOf d) (insA a d.an), insA a d.an⟩) else ⟨[], []⟩
theorem app_bad {d : Desk} {a : Ans} (h : (validB d && ansB a) = false) : applyE d a = 1 := by unfold applyE; rw [h]; rfl
theorem app_two {d : Desk} {a : Ans} (h : (validB d && ansB a) = true) (h1 : foundA a.q d.an = true) (h2 : d.an[posA a.q d.an]? ≠ some a) : applyE d a = 5 := by unfold applyE; rw [h, h1]; simp [h2]
theorem app_same {d : Desk} {a : Ans} (h : (validB d && ansB a) = true) (h1 : foundA a.q d.an = true) (h2 : d.an[posA a.q d.an]? = some a) : applyE d a = 0 := by unfold applyE; rw [h, h1]; simp [h2]
theorem app_lim {d : Desk} {a : Ans} (h : (validB d && ansB a) = true) (h1 : foundA a.q d.an = false) (h2 : 2000 ≤ d.an.length) : applyE d a = 2 := by unfold applyE; rw [h, h1]; simp [h2]
theorem app_state {d : Desk} {a : Ans} (h : (validB d && ansB a) = true) (h1 : foundA a.q d.an = false) (h2 : ¬ 2000 ≤ d.an.length) (h3 : standOk (paysOf d) (insA a d.an) = false) : applyE d a = 401 := by unfold applyE; rw [h, h1, h3]; simp [h2]
theorem app_ok {d : Desk} {a : Ans} (h : (validB d && ansB a) = true) (h1 : foundA a.q d.an = false) (h2 : ¬ 2000 ≤ d.an.length) (h3 : standOk (paysOf d) (insA a d.an) = true) : applyE d a = 0 := by unfold applyE; rw [h, h1, h3]; simp [h2]
theorem appD_no {d : Desk} {a : Ans} {e : Int} (h : applyE d a = e) (he : e ≠ 0) : applyD d a = ⟨[], []⟩ := by unfold applyD; rw [if_neg (by rw [h]; exact he)]
theorem appD_same {d : Desk} {a : Ans} (h : applyE d a = 0) (h1 : foundA a.q d.an = true) : applyD d a = d := by unfold applyD; rw [if_pos h, h1]; rfl
theorem appD_ok {d : Desk} {a : Ans} (h : applyE d a = 0) (h1 : foundA a.q d.an = false) : applyD d a = ⟨standL (paysOf d) (insA a d.an), insA a d.an⟩ := by unfold applyD; rw [if_pos h, h1]; rfl
theorem pos_le (q : Int) (l : List Ans) : posA q l ≤ l.length := by unfold posA; exact List.Sublist.length_le (List.takeWhile_sublist _)
theorem found_get {q : Int} {l : List Ans} (h : foundA q l = true) : ∃ b, l[posA q l]? = some b ∧ b.q = q := by
  unfold foundA at h
  cases hb : l[posA q l]? with
  | none => rw [hb] at h; cases h
  | some b => rw [hb] at h; exact ⟨b, rfl, by simpa using h⟩
theorem insA_len (a : Ans) (l : List Ans) : (insA a l).length = l.length + 1 := by
  have := pos_le a.q l
  unfold insA
  rw [List.length_append, List.length_cons, List.length_take, List.length_drop]; omega
end WageSet
