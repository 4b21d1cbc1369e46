/-
  What the laws of settle say, in plain words: other payments, answers kept, entries kept.
-/
import Derived.Test.YtaocjobbfcfleaaLawP
namespace WageSet
open WageOrd WageMap

/-! ### others -/
/-- How many standings of a list are the given one, of another payment. -/
def hitN (id : Int) (s : Sta) : List Sta → Nat
  | [] => 0
  | t :: l => (if s = t ∧ s.p.id ≠ id then 1 else 0) + hitN id s l
def sumN (id : Int) (b : List Sta) : List Sta → Nat
  | [] => 0
  | s :: l => hitN id s b + sumN id b l
def wantN (id : Int) : List Sta → Nat
  | [] => 0
  | s :: l => (if s.p.id ≠ id then 1 else 0) + wantN id l
theorem hitN_snoc (id : Int) (s : Sta) : ∀ (l : List Sta) (t : Sta), hitN id s (l ++ [t]) = hitN id s l + (if s = t ∧ s.p.id ≠ id then 1 else 0)
  | [], t => by simp [hitN]
  | x :: l, t => by simp only [List.cons_append, hitN, hitN_snoc id s l t]; omega
theorem sumN_snoc (id : Int) (b : List Sta) : ∀ (l : List Sta) (s : Sta), sumN id b (l ++ [s]) = sumN id b l + hitN id s b
  | [], t => by simp [sumN]
  | x :: l, t => by simp only [List.cons_append, sumN, sumN_snoc id b l t]; omega
theorem wantN_snoc (id : Int) : ∀ (l : List Sta) (s : Sta), wantN id (l ++ [s]) = wantN id l + (if s.p.id ≠ id then 1 else 0)
  | [], t => by simp [wantN]
  | x :: l, t => by simp only [List.cons_append, wantN, wantN_snoc id l t]; omega
theorem hitN_le (id : Int) (s : Sta) : ∀ l : List Sta, hitN id s l ≤ l.length
  | [] => Nat.le_refl _
  | t :: l => by have := hitN_le id s l; simp only [hitN, List.length_cons]; split <;> omega
theorem sumN_le (id : Int) (b : List Sta) : ∀ l : List Sta, sumN id b l ≤ l.length * b.length
  | [] => Nat.le_of_eq (by simp [sumN])
  | s :: l => by
    have h1 := sumN_le id b l
    have h2 := hitN_le id s b
    simp only [sumN, List.length_cons, Nat.add_mul, Nat.one_mul]; omega
theorem wantN_le (id : Int) : ∀ l : List Sta, wantN id l ≤ l.length
  | [] => Nat.le_refl _
  | t :: l => by have := wantN_le id l; simp only [wantN, List.length_cons]; split <;> omega
def othersB (a b : Desk) (id : Int) : Bool := decide (sumN id b.ss a.ss = wantN id a.ss)
def IdsN (l : List Sta) : Prop := l.Pairwise fun x y => x.p.id ≠ y.p.id
theorem hitN_off {id : Int} {s : Sta} : ∀ {l : List Sta}, s ∉ l → hitN id s l = 0
  | [], _ => rfl
  | t :: l, h => by
    simp only [List.mem_cons, not_or] at h
    simp only [hitN, hitN_off h.2, h.1, false_and, if_false]
theorem hitN_id {id : Int} {s : Sta} (h : s.p.id = id) : ∀ l : List Sta, hitN id s l = 0
  | [] => rfl
  | t :: l => by simp [hitN, hitN_id h l, h]
theorem hitN_one {id : Int} {s : Sta} (h : s.p.id ≠ id) : ∀ {l : List Sta}, IdsN l → s ∈ l → hitN id s l = 1
  | [], _, hm => by cases hm
  | t :: l, hl, hm => by
    obtain ⟨h1, h2⟩ := List.pairwise_cons.1 hl
    by_cases e : s = t
    · subst e
      have : s ∉ l := fun hs => h1 s hs rfl
      simp [hitN, hitN_off this, h]
    · have := hitN_one h h2 ((List.mem_cons.1 hm).resolve_left e)
      simp [hitN, this, e]
theorem others_of {id : Int} {b : List Sta} (hb : IdsN b) : ∀ {a : List Sta}, (∀ s ∈ a, s.p.id ≠ id → s ∈ b) → sumN id b a = wantN id a
  | [], _ => rfl
  | s :: a, h => by
    have ih := others_of hb (a := a) fun t ht => h t (List.mem_cons_of_mem _ ht)
    simp only [sumN, wantN, ih]
    by_cases e : s.p.id = id
    · rw [hitN_id e]; simp [e]
    · rw [hitN_one e hb (h s List.mem_cons_self e)]; simp [e]
theorem ids_of {d : Desk} (h : validB d = true) : IdsN d.ss := by
  have h5 := (stand_parts (valid_parts h).2.2.1).1
  unfold IdsN
  rw [List.pairwise_iff_getElem]
  intro i j hi hj hij
  exact ids_ne h5 (i := i) (j := j) (p := d.ss[i].p) (q := d.ss[j].p) (by unfold paysOf; simpa using hi) (by unfold paysOf; simpa using hj) (by unfold paysOf; simp [hi]) (by unfold paysOf; simp [hj]) (by omega)

/-! ### sending -/
theorem send_cases {d : Desk} {p : Pay} (h : sendE d p = 0) : validB d = true ∧ payB p = true ∧ hasId d.ss p.id = false ∧ d.ss.length < 400 ∧ sendD d p = ⟨d.ss ++ [⟨p, 1, 0, 0⟩], d.an⟩ := by
  have hv : (validB d && payB p) = true := by
    cases hh : (validB d && payB p) with
    | true => rfl
    | false => rw [send_bad hh] at h; cases h
  have hv' := hv
  rw [Bool.and_eq_true] at hv'
  refine ⟨hv'.1, hv'.2, ?_⟩
  cases hi : hasId d.ss p.id with
  | true => rw [send_two hv hi] at h; cases h
  | false =>
    refine ⟨rfl, ?_, sendD_ok h⟩
    apply Classical.byContradiction
    intro hl
    rw [send_lim hv hi (by omega)] at h; cases h
theorem tal_none {id : Int} : ∀ {l : List Ans}, (∀ a ∈ l, a.id ≠ id) → tal id l = ⟨0, 0, 0, 0⟩
  | [], _ => rfl
  | a :: l, h => by
    have h1 := h a List.mem_cons_self
    have h2 := tal_none (id := id) (l := l) fun b hb => h b (List.mem_cons_of_mem _ hb)
    unfold tal at h2 ⊢
    simp only [Tal.mk.injEq] at h2 ⊢
    simp [sm, pdF, bkF, tkF, rfF, h1, h2]
theorem any_hasId (d : Desk) (id : Int) : ((paysOf d).any fun x => x.id == id) = hasId d.ss id := by
  unfold paysOf hasId; rw [List.any_map]; rfl
theorem psB_append {ps qs : List Pay} : ∀ {k : Nat}, k ≤ ps.length → psB (ps ++ qs) k = psB ps k
  | 0, _ => rfl
  | k + 1, hk => by
    unfold psB
    rw [psB_append (by omega), List.getElem?_append_left (by omega), List.take_append_of_le_length (by omega)]
theorem findP_append {ps : List Pay} {q : Pay} {id : Int} {p : Pay} (h : findP ps id = some p) : findP (ps ++ [q]) id = some p := by
  unfold findP at h ⊢
  rw [List.find?_append, h]; rfl
theorem send_paysOf {d : Desk} {p : Pay} : paysOf ⟨d.ss ++ [⟨p, 1, 0, 0⟩], d.an⟩ = paysOf d ++ [p] := by
  unfold paysOf; simp
theorem send_valid {d : Desk} {p : Pay} (h : sendE d p = 0) : validB (sendD d p) = true := by
  obtain ⟨hv, hp, hi, hl, e⟩ := send_cases h
  obtain ⟨v1, v2, v3, v4⟩ := valid_parts hv
  obtain ⟨s1, s2, s3, s4⟩ := stand_mem v3
  have hi' : ((paysOf d).any fun x => x.id == p.id) = false := by rw [any_hasId]; exact hi
  have hno : ∀ a ∈ d.an, a.id ≠ p.id := fun a ha e => by
    have h1 := (s2 a ha).2
    unfold dayOk at h1
    cases hf : findP (paysOf d) a.id with
    | none => rw [hf] at h1; cases h1
    | some q =>
      unfold findP at hf
      have h2 := List.find?_some hf
      have h3 := List.mem_of_find?_eq_some hf
      rw [List.any_eq_false] at hi'
      have := hi' q h3
      simp only [beq_iff_eq] at h2 this
      exact this (h2.trans e)
  have ht := tal_none hno
  have hst : standL (paysOf d ++ [p]) d.an = d.ss ++ [⟨p, 1, 0, 0⟩] := by
    unfold standL at v4 ⊢
    rw [List.map_append, v4]
    simp only [List.map_cons, List.map_nil, ht]; rfl
  have hok : standOk (paysOf d ++ [p]) d.an = true := by
    refine stand_of ?_ (fun a ha => ⟨(s2 a ha).1, ?_⟩) s3 fun q hq => ?_
    · rw [List.length_append, List.length_singleton]
      refine psB_succ (p := p) (by rw [psB_append (Nat.le_refl _)]; exact s1) (by simp) hp ?_
      rw [List.take_append_of_le_length (Nat.le_refl _), List.take_length]; exact hi'
    · have h1 := (s2 a ha).2
      unfold dayOk at h1 ⊢
      cases hf : findP (paysOf d) a.id with
      | none => rw [hf] at h1; cases h1
      | some q => rw [findP_append hf]; rw [hf] at h1; exact h1
    · rcases List.mem_append.1 hq with hq | hq
      · exact s4 q hq
      · rw [List.mem_singleton] at hq; subst hq
        rw [ht]
        have := (pay_parts hp).2.2.2.2.1
        unfold okT
        simp; omega
  rw [e]
  have : (⟨d.ss ++ [⟨p, 1, 0, 0⟩], d.an⟩ : Desk) = mkD (paysOf d ++ [p]) d.an := by unfold mkD; rw [hst]
  rw [this]
  exact mk_valid (by rw [List.length_append, List.length_singleton, paysOf_len]; omega) v2 hok
theorem send_others {d : Desk} {p : Pay} (h : sendE d p = 0) : othersB d (sendD d p) p.id = true := by
  have hv := send_valid h
  obtain ⟨_, _, _, _, e⟩ := send_cases h
  refine decide_eq_true (others_of (ids_of hv) fun s hs _ => ?_)
  rw [e]; exact List.mem_append_left _ hs
theorem tal_ins {id : Int} {a : Ans} {l : List Ans} (h : a.id ≠ id) : tal id (insA a l) = tal id l := by
  rw [tal_perm id (insA_perm a l)]
  unfold tal
  simp [sm, pdF, bkF, tkF, rfF, h]
theorem apply_others {d : Desk} {a : Ans} (h : applyE d a = 0) : othersB d (applyD d a) a.id = true := by
  have hv := (app_res h).1
  refine decide_eq_true (others_of (ids_of hv) fun s hs hne => ?_)
  obtain ⟨hd, _, h1⟩ := app_cases h
  rcases h1 with ⟨_, e⟩ | ⟨_, _, _, e⟩
  · rw [e]; exact hs
  · rw [e]
    obtain ⟨_, h3, _⟩ := valid_sta hd hs
    show s ∈ standL (paysOf d) (insA a d.an)
    unfold standL
    refine List.mem_map.2 ⟨s.p, ?_, ?_⟩
    · unfold paysOf; exact List.mem_map.2 ⟨s, hs, rfl⟩
    · rw [tal_ins (fun e => hne e.symm)]; exact h3.symm
theorem apply_len {d : Desk} {a : Ans} (h : applyE d a = 0) : (applyD d a).ss.length = d.ss.length := by
  rw [← paysOf_len, ← paysOf_len, (app_res h).2.1]

/-! ### what is found in its order -/
section
variable {α : Type} [DecidableEq α]
/-- Goes through a list and counts what comes in the order of another. -/
def goK (b : List α) : List α → Nat → Nat
  | [], k => k
  | x :: l, k => goK b l (if b[k]? = some x then k + 1 else k)
theorem goK_snoc (b : List α) (x : α) : ∀ (l : List α) (k : Nat), goK b (l ++ [x]) k = if b[goK b l k]? = some x then goK b l k + 1 else goK b l k
  | [], k => rfl
  | y :: l, k => by simp only [List.cons_append, goK]; exact goK_snoc b x l _
theorem goK_le (b : List α) : ∀ (l : List α) (k : Nat), k ≤ b.length → goK b l k ≤ b.length
  | [], _, h => h
  | x :: l, k, h => by
    unfold goK
    apply goK_le b l
    split
    · rename_i hx
      have := (List.getElem?_eq_some_iff.1 hx).1; omega
    · exact h
theorem goK_sub (b : List α) : ∀ (l : List α) (k : Nat), k ≤ b.length → (b.drop k).Sublist l → goK b l k = b.length
  | [], k, hk, h => by
    have : (b.drop k).length ≤ 0 := h.length_le
    rw [List.length_drop] at this
    unfold goK; omega
  | x :: l, k, hk, h => by
    unfold goK
    by_cases hx : b[k]? = some x
    · rw [if_pos hx]
      have hlt := (List.getElem?_eq_some_iff.1 hx).1
      have he := (List.getElem?_eq_some_iff.1 hx).2
      refine goK_sub b l (k + 1) hlt ?_
      rw [List.drop_eq_getElem_cons hlt, he] at h
      exact List.cons_sublist_cons.1 h
    · rw [if_neg hx]
      refine goK_sub b l k hk ?_
      cases hd : b.drop k with
      | nil => exact List.nil_sublist _
      | cons y m =>
        rw [hd] at h
        have hy : b[k]? = some y := by
          have := List.getElem?_drop (xs := b) (i := k) (j := 0)
          rw [hd] at this; simpa using this.symm
        cases h with
        | cons _ h => exact h
        | cons_cons _ h => exact absurd hy hx
end
theorem ans_kept {d : Desk} {a : Ans} (h : applyE d a = 0) : goK d.an (applyD d a).an 0 = d.an.length := by
  refine goK_sub _ _ 0 (Nat.zero_le _) ?_
  rw [List.drop_zero]
  obtain ⟨hv, _, _⟩ := app_cases h
  obtain ⟨h1, _, h3, _⟩ := app_res h
  exact sq_sub (valid_sq hv) (valid_sq h1) fun x hx => (h3 x).2 (.inr hx)
theorem apply_bad {d : Desk} {a : Ans} (h : applyE d a ≠ 0) : applyD d a = ⟨[], []⟩ := appD_no rfl h
end WageSet
