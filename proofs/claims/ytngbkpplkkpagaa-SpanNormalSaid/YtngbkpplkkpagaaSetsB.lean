/-
  The reference's functions on sets of integers: plain laws.
-/
import Derived.Test.YtngbkpplkkpagaaSets
namespace WageSpan

/-! ### sorting by From -/
def rmerge : List Sp → List Sp → List Sp
  | [], l => l
  | s :: x, [] => s :: x
  | s :: x, t :: y => if s.1 ≤ t.1 then s :: rmerge x (t :: y) else t :: rmerge (s :: x) y
termination_by x y => x.length + y.length
def rsorted (l : List Sp) : List Sp :=
  if h : l.length < 2 then l else rmerge (rsorted (l.take (l.length / 2))) (rsorted (l.drop (l.length / 2)))
termination_by l.length
decreasing_by
  · rw [List.length_take]; omega
  · rw [List.length_drop]; omega
def SortedS (l : List Sp) : Prop := l.Pairwise fun a b => a.1 ≤ b.1
theorem rmerge_perm (x y : List Sp) : (rmerge x y).Perm (x ++ y) := by
  fun_induction rmerge x y with
  | case1 l => exact List.Perm.refl _
  | case2 s x => rw [List.append_nil]
  | case3 s x t y h ih => exact ih.cons s
  | case4 s x t y h ih => exact (ih.cons t).trans (List.perm_middle (l₁ := s :: x)).symm
theorem rmerge_sorted (x y : List Sp) (hx : SortedS x) (hy : SortedS y) : SortedS (rmerge x y) := by
  fun_induction rmerge x y with
  | case1 l => exact hy
  | case2 s x => exact hx
  | case3 s x t y h ih =>
    refine List.pairwise_cons.2 ⟨fun z hz => ?_, ih (List.pairwise_cons.1 hx).2 hy⟩
    rcases List.mem_append.1 ((rmerge_perm _ _).mem_iff.1 hz) with hz | hz
    · exact (List.pairwise_cons.1 hx).1 z hz
    · rcases List.mem_cons.1 hz with rfl | hz
      · exact h
      · have := (List.pairwise_cons.1 hy).1 z hz; omega
  | case4 s x t y h ih =>
    refine List.pairwise_cons.2 ⟨fun z hz => ?_, ih hx (List.pairwise_cons.1 hy).2⟩
    rcases List.mem_append.1 ((rmerge_perm _ _).mem_iff.1 hz) with hz | hz
    · rcases List.mem_cons.1 hz with rfl | hz
      · omega
      · have := (List.pairwise_cons.1 hx).1 z hz; omega
    · exact (List.pairwise_cons.1 hy).1 z hz
theorem rsorted_perm (l : List Sp) : (rsorted l).Perm l := by
  fun_induction rsorted l with
  | case1 l h => exact List.Perm.refl _
  | case2 l h ih1 ih2 =>
    refine (rmerge_perm _ _).trans ?_
    have := ih1.append ih2
    rwa [List.take_append_drop] at this
theorem rsorted_sorted (l : List Sp) : SortedS (rsorted l) := by
  fun_induction rsorted l with
  | case1 l h =>
    match l, h with
    | [], _ => exact List.Pairwise.nil
    | [x], _ => exact List.pairwise_singleton _ _
    | x :: y :: l, h => simp at h; omega
  | case2 l h ih1 ih2 => exact rmerge_sorted _ _ ih1 ih2

/-! ### the normal form -/
/-- One more span; the list is kept with its last span first. -/
def rstep (out : List Sp) (s : Sp) : List Sp :=
  if properB s then
    match out with
    | [] => [s]
    | t :: r => if s.1 ≤ t.2 then (t.1, max t.2 s.2) :: r else s :: t :: r
  else out
def rnormR (l : List Sp) : List Sp := l.foldl rstep []
def rnorm (l : List Sp) : List Sp := (rnormR (rsorted l)).reverse
/-- Normal, with the last span first. -/
def NormalR (l : List Sp) : Prop := (∀ s ∈ l, properB s = true) ∧ l.Pairwise fun a b => b.2 < a.1
theorem NormalR.rev {l : List Sp} (h : NormalR l) : Normal l.reverse := ⟨fun s hs => h.1 s (List.mem_reverse.1 hs), List.pairwise_reverse.2 h.2⟩
theorem has_rev (l : List Sp) (n : Int) : hasB l.reverse n = hasB l n := has_perm (List.reverse_perm l) n
theorem in_false {s : Sp} (h : properB s = false) (n : Int) : inB s n = false := by unfold inB; rw [h]; rfl
theorem rstep_ok {out : List Sp} {s : Sp} (h : NormalR out) (hle : ∀ t ∈ out, t.1 ≤ s.1) : NormalR (rstep out s) ∧ (∀ t ∈ rstep out s, t.1 ≤ s.1) ∧ ∀ n, hasB (rstep out s) n = (hasB out n || inB s n) := by
  unfold rstep
  cases hp : properB s with
  | false =>
    rw [if_neg (by decide)]
    exact ⟨h, hle, fun n => by rw [in_false hp, Bool.or_false]⟩
  | true =>
    rw [if_pos rfl]
    have ps := proper_iff.1 hp
    cases out with
    | nil =>
      refine ⟨⟨fun x hx => by simp at hx; subst hx; exact hp, List.pairwise_singleton _ _⟩, fun t ht => by simp at ht; subst ht; omega, fun n => by rw [has_cons, has_nil, Bool.or_false, Bool.false_or]⟩
    | cons t r =>
      simp only
      have pt := proper_iff.1 (h.1 t List.mem_cons_self)
      have ht := hle t List.mem_cons_self
      have hr := List.pairwise_cons.1 h.2
      by_cases hc : s.1 ≤ t.2
      · rw [if_pos hc]
        have pn : properB (t.1, max t.2 s.2) = true := proper_iff.2 ⟨pt.1, by show max t.2 s.2 ≤ _; omega, by show t.1 < max t.2 s.2; omega⟩
        refine ⟨⟨fun x hx => ?_, List.pairwise_cons.2 ⟨fun x hx => hr.1 x hx, hr.2⟩⟩, fun x hx => ?_, fun n => ?_⟩
        · rcases List.mem_cons.1 hx with rfl | hx
          · exact pn
          · exact h.1 x (List.mem_cons_of_mem _ hx)
        · rcases List.mem_cons.1 hx with rfl | hx
          · exact ht
          · exact hle x (List.mem_cons_of_mem _ hx)
        · rw [has_cons, has_cons]
          have e : inB (t.1, max t.2 s.2) n = (inB t n || inB s n) := by
            rw [Bool.eq_iff_iff, Bool.or_eq_true, in_iff, in_iff, in_iff]
            have := h.1 t List.mem_cons_self
            simp only [pn, this, hp, true_and]
            omega
          rw [e]
          cases inB t n <;> cases inB s n <;> cases hasB r n <;> rfl
      · rw [if_neg hc]
        refine ⟨⟨fun x hx => ?_, List.pairwise_cons.2 ⟨fun x hx => ?_, h.2⟩⟩, fun x hx => ?_, fun n => ?_⟩
        · rcases List.mem_cons.1 hx with rfl | hx
          · exact hp
          · exact h.1 x hx
        · rcases List.mem_cons.1 hx with rfl | hx
          · omega
          · have := hr.1 x hx; omega
        · rcases List.mem_cons.1 hx with rfl | hx
          · omega
          · exact hle x hx
        · rw [has_cons, Bool.or_comm]
theorem rfold_ok : ∀ (l out : List Sp), SortedS l → NormalR out → (∀ t ∈ out, ∀ s ∈ l, t.1 ≤ s.1) → NormalR (l.foldl rstep out) ∧ ∀ n, hasB (l.foldl rstep out) n = (hasB out n || hasB l n)
  | [], out, _, h, _ => ⟨h, fun n => by rw [has_nil, Bool.or_false]; rfl⟩
  | s :: l, out, hs, h, hle => by
    obtain ⟨h1, h2, h3⟩ := rstep_ok h (fun t ht => hle t ht s List.mem_cons_self)
    obtain ⟨h4, h5⟩ := rfold_ok l (rstep out s) (List.pairwise_cons.1 hs).2 h1 (fun t ht x hx => by have := h2 t ht; have := (List.pairwise_cons.1 hs).1 x hx; omega)
    refine ⟨h4, fun n => ?_⟩
    rw [List.foldl_cons, h5, h3, has_cons, Bool.or_assoc]
theorem rnorm_eq (l : List Sp) : rnorm l = nrm l := by
  obtain ⟨h1, h2⟩ := rfold_ok (rsorted l) [] (rsorted_sorted l) ⟨fun s hs => by simp at hs, List.Pairwise.nil⟩ (fun t ht => by simp at ht)
  refine (nrm_eq h1.rev fun n => ?_).symm
  rw [has_rev, h2, has_nil, Bool.false_or, has_perm (rsorted_perm l)]

/-! ### intersection -/
def rmeet : List Sp → List Sp → List Sp
  | s :: x, t :: y => (if max s.1 t.1 < min s.2 t.2 then [(max s.1 t.1, min s.2 t.2)] else []) ++ (if s.2 < t.2 then rmeet x (t :: y) else rmeet (s :: x) y)
  | _, _ => []
termination_by x y => x.length + y.length
theorem has_before {l : List Sp} {n : Int} (h : ∀ s ∈ l, n < s.1) : hasB l n = false := by
  cases hh : hasB l n with
  | false => rfl
  | true =>
    obtain ⟨s, hs, hi⟩ := has_iff.1 hh
    have := h s hs
    have := (in_iff.1 hi).2
    omega
theorem rmeet_ok (x y : List Sp) (hx : Normal x) (hy : Normal y) : Normal (rmeet x y) ∧ (∀ r ∈ rmeet x y, (∀ s, x.head? = some s → s.1 ≤ r.1) ∧ ∀ t, y.head? = some t → t.1 ≤ r.1) ∧ ∀ n, hasB (rmeet x y) n = (hasB x n && hasB y n) := by
  fun_induction rmeet x y with
  | case1 s x t y ih1 ih2 =>
    have ps := proper_iff.1 hx.head.1
    have pt := proper_iff.1 hy.head.1
    by_cases hc : s.2 < t.2
    · rw [if_pos hc]
      obtain ⟨h1, h2, h3⟩ := ih1 hx.tail hy
      have hfirst : ∀ r ∈ rmeet x (t :: y), s.2 < r.1 ∧ t.1 ≤ r.1 := fun r hr => by
        have := h2 r hr
        refine ⟨?_, this.2 t rfl⟩
        cases x with
        | nil => rw [show rmeet [] (t :: y) = [] by unfold rmeet; rfl] at hr; simp at hr
        | cons z x => have := this.1 z rfl; have := hx.head.2 z List.mem_cons_self; omega
      have hrest : ∀ n, hasB (rmeet x (t :: y)) n = (hasB x n && hasB (t :: y) n) := h3
      by_cases hm : max s.1 t.1 < min s.2 t.2
      · rw [if_pos hm]
        have pm : properB (max s.1 t.1, min s.2 t.2) = true := proper_iff.2 ⟨by show _ ≤ max s.1 t.1; omega, by show min s.2 t.2 ≤ _; omega, hm⟩
        refine ⟨h1.cons pm fun r hr => by have := hfirst r hr; show min s.2 t.2 < r.1; omega, fun r hr => ?_, fun n => ?_⟩
        · rcases List.mem_cons.1 hr with rfl | hr
          · exact ⟨fun z hz => by injection hz with hz; subst hz; show _ ≤ max s.1 t.1; omega, fun z hz => by injection hz with hz; subst hz; show _ ≤ max s.1 t.1; omega⟩
          · have := hfirst r hr
            exact ⟨fun z hz => by injection hz with hz; subst hz; omega, fun z hz => by injection hz with hz; subst hz; omega⟩
        · show hasB ((max s.1 t.1, min s.2 t.2) :: rmeet x (t :: y)) n = _
          rw [has_cons, hrest, has_cons s]
          have e : inB (max s.1 t.1, min s.2 t.2) n = (inB s n && hasB (t :: y) n) := by
            rw [Bool.eq_iff_iff, Bool.and_eq_true, in_iff, in_iff, has_cons, Bool.or_eq_true, in_iff]
            simp only [pm, hx.head.1, hy.head.1, true_and]
            constructor
            · intro h; exact ⟨by omega, .inl (by omega)⟩
            · rintro ⟨h, h' | h'⟩
              · omega
              · obtain ⟨z, hz, hi⟩ := has_iff.1 h'
                have := hy.head.2 z hz; have := (in_iff.1 hi).2; omega
          rw [e]
          cases inB s n <;> cases hasB (t :: y) n <;> cases hasB x n <;> rfl
      · rw [if_neg hm, List.nil_append]
        refine ⟨h1, fun r hr => ?_, fun n => ?_⟩
        · have := hfirst r hr
          exact ⟨fun z hz => by injection hz with hz; subst hz; omega, fun z hz => by injection hz with hz; subst hz; omega⟩
        · rw [hrest, has_cons s]
          have e : (inB s n && hasB (t :: y) n) = false := by
            rw [Bool.and_eq_false_iff]
            cases hi : inB s n with
            | false => exact .inl rfl
            | true =>
              right
              have hi := (in_iff.1 hi).2
              apply has_before
              intro z hz
              rcases List.mem_cons.1 hz with rfl | hz
              · omega
              · have := hy.head.2 z hz; omega
          cases h1 : inB s n <;> cases h2 : hasB (t :: y) n <;> simp_all
    · rw [if_neg hc]
      obtain ⟨h1, h2, h3⟩ := ih2 hx hy.tail
      have hfirst : ∀ r ∈ rmeet (s :: x) y, t.2 < r.1 ∧ s.1 ≤ r.1 := fun r hr => by
        have := h2 r hr
        refine ⟨?_, this.1 s rfl⟩
        cases y with
        | nil => rw [show rmeet (s :: x) [] = [] by unfold rmeet; rfl] at hr; simp at hr
        | cons z y => have := this.2 z rfl; have := hy.head.2 z List.mem_cons_self; omega
      by_cases hm : max s.1 t.1 < min s.2 t.2
      · rw [if_pos hm]
        have pm : properB (max s.1 t.1, min s.2 t.2) = true := proper_iff.2 ⟨by show _ ≤ max s.1 t.1; omega, by show min s.2 t.2 ≤ _; omega, hm⟩
        refine ⟨h1.cons pm fun r hr => by have := hfirst r hr; show min s.2 t.2 < r.1; omega, fun r hr => ?_, fun n => ?_⟩
        · rcases List.mem_cons.1 hr with rfl | hr
          · exact ⟨fun z hz => by injection hz with hz; subst hz; show _ ≤ max s.1 t.1; omega, fun z hz => by injection hz with hz; subst hz; show _ ≤ max s.1 t.1; omega⟩
          · have := hfirst r hr
            exact ⟨fun z hz => by injection hz with hz; subst hz; omega, fun z hz => by injection hz with hz; subst hz; omega⟩
        · show hasB ((max s.1 t.1, min s.2 t.2) :: rmeet (s :: x) y) n = _
          rw [has_cons, h3, has_cons t]
          have e : inB (max s.1 t.1, min s.2 t.2) n = (inB t n && hasB (s :: x) n) := by
            rw [Bool.eq_iff_iff, Bool.and_eq_true, in_iff, in_iff, has_cons, Bool.or_eq_true, in_iff]
            simp only [pm, hx.head.1, hy.head.1, true_and]
            constructor
            · intro h; exact ⟨by omega, .inl (by omega)⟩
            · rintro ⟨h, h' | h'⟩
              · omega
              · obtain ⟨z, hz, hi⟩ := has_iff.1 h'
                have := hx.head.2 z hz; have := (in_iff.1 hi).2; omega
          rw [e]
          cases inB t n <;> cases hasB (s :: x) n <;> cases hasB y n <;> rfl
      · rw [if_neg hm, List.nil_append]
        refine ⟨h1, fun r hr => ?_, fun n => ?_⟩
        · have := hfirst r hr
          exact ⟨fun z hz => by injection hz with hz; subst hz; omega, fun z hz => by injection hz with hz; subst hz; omega⟩
        · rw [h3, has_cons t]
          have e : (inB t n && hasB (s :: x) n) = false := by
            rw [Bool.and_eq_false_iff]
            cases hi : inB t n with
            | false => exact .inl rfl
            | true =>
              right
              have hi := (in_iff.1 hi).2
              apply has_before
              intro z hz
              rcases List.mem_cons.1 hz with rfl | hz
              · omega
              · have := hx.head.2 z hz; omega
          cases h1 : inB t n <;> cases h2 : hasB (s :: x) n <;> simp_all
  | case2 x y hne =>
    refine ⟨Normal.nil, fun r hr => by simp at hr, fun n => ?_⟩
    rw [has_nil]
    cases x with
    | nil => rw [has_nil, Bool.false_and]
    | cons s x =>
      cases y with
      | nil => rw [has_nil, Bool.and_false]
      | cons t y => exact absurd rfl (hne s x t y rfl)
theorem rmeet_eq (a b : List Sp) : rmeet (rnorm a) (rnorm b) = meet a b := by
  rw [rnorm_eq, rnorm_eq]
  obtain ⟨h1, _, h3⟩ := rmeet_ok (nrm a) (nrm b) (nrm_normal a) (nrm_normal b)
  exact (nf_ext rfl h1 fun n => by rw [h3, nrm_has, nrm_has]; rfl).symm

/-! ### difference -/
def rcompl : Int → List Sp → List Sp
  | fr, [] => if fr < 1152921504606846976 then [(fr, 1152921504606846976)] else []
  | fr, t :: y => (if fr < t.1 then [(fr, t.1)] else []) ++ rcompl t.2 y
theorem rcompl_ok : ∀ (y : List Sp) (fr : Int), Normal y → -1152921504606846976 ≤ fr → fr ≤ 1152921504606846976 → (∀ t ∈ y, fr ≤ t.1) →
    Normal (rcompl fr y) ∧ (∀ r ∈ rcompl fr y, fr ≤ r.1) ∧ ∀ n, hasB (rcompl fr y) n = (decide (fr ≤ n ∧ n < 1152921504606846976) && !hasB y n)
  | [], fr, _, h0, h1, _ => by
    unfold rcompl
    by_cases hc : fr < 1152921504606846976
    · rw [if_pos hc]
      have pm : properB (fr, 1152921504606846976) = true := proper_iff.2 ⟨h0, Int.le_refl _, hc⟩
      refine ⟨Normal.nil.cons pm (fun x hx => by simp at hx), fun r hr => by simp at hr; subst hr; exact Int.le_refl _, fun n => ?_⟩
      rw [has_cons, has_nil, Bool.or_false, Bool.not_false, Bool.and_true]
      unfold inB; rw [pm, Bool.true_and]
    · rw [if_neg hc]
      refine ⟨Normal.nil, fun r hr => by simp at hr, fun n => ?_⟩
      rw [has_nil, decide_eq_false (by omega), Bool.false_and]
  | t :: y, fr, hy, h0, h1, hle => by
    have pt := proper_iff.1 hy.head.1
    have ht := hle t List.mem_cons_self
    obtain ⟨k1, k2, k3⟩ := rcompl_ok y t.2 hy.tail (by omega) (by omega) (fun x hx => by have := hy.head.2 x hx; omega)
    have hgap : ∀ r ∈ rcompl t.2 y, t.1 < r.1 := fun r hr => by have := k2 r hr; omega
    have key : ∀ n, (decide (fr ≤ n ∧ n < 1152921504606846976) && !hasB (t :: y) n) = (decide (fr ≤ n ∧ n < t.1) || (decide (t.2 ≤ n ∧ n < 1152921504606846976) && !hasB y n)) := by
      intro n
      rw [has_cons]
      have hin : inB t n = decide (t.1 ≤ n ∧ n < t.2) := by unfold inB; rw [hy.head.1, Bool.true_and]
      rw [hin]
      by_cases c1 : n < t.1
      · have hb : hasB y n = false := has_before fun x hx => by have := hy.head.2 x hx; omega
        rw [hb, decide_eq_false (p := t.1 ≤ n ∧ n < t.2) (by omega), decide_eq_false (p := t.2 ≤ n ∧ n < 1152921504606846976) (by omega)]
        have : (fr ≤ n ∧ n < 1152921504606846976) ↔ (fr ≤ n ∧ n < t.1) := by omega
        simp [this]
      · by_cases c2 : n < t.2
        · rw [decide_eq_true (p := t.1 ≤ n ∧ n < t.2) (by omega), decide_eq_false (p := fr ≤ n ∧ n < t.1) (by omega), decide_eq_false (p := t.2 ≤ n ∧ n < 1152921504606846976) (by omega)]
          simp
        · rw [decide_eq_false (p := t.1 ≤ n ∧ n < t.2) (by omega), decide_eq_false (p := fr ≤ n ∧ n < t.1) (by omega), Bool.false_or, Bool.false_or]
          have : (fr ≤ n ∧ n < 1152921504606846976) ↔ (t.2 ≤ n ∧ n < 1152921504606846976) := by omega
          simp [this]
    unfold rcompl
    by_cases hc : fr < t.1
    · rw [if_pos hc]
      have pm : properB (fr, t.1) = true := proper_iff.2 ⟨h0, by show t.1 ≤ _; omega, hc⟩
      refine ⟨k1.cons pm fun r hr => hgap r hr, fun r hr => ?_, fun n => ?_⟩
      · rcases List.mem_cons.1 hr with rfl | hr
        · exact Int.le_refl _
        · have := hgap r hr; omega
      · show hasB ((fr, t.1) :: rcompl t.2 y) n = _
        rw [has_cons, k3, key]
        congr 1
        unfold inB; rw [pm, Bool.true_and]
    · rw [if_neg hc, List.nil_append]
      refine ⟨k1, fun r hr => by have := hgap r hr; omega, fun n => ?_⟩
      rw [k3, key, decide_eq_false (p := fr ≤ n ∧ n < t.1) (by omega), Bool.false_or]
theorem has_range {l : List Sp} {n : Int} (h : hasB l n = true) : -1152921504606846976 ≤ n ∧ n < 1152921504606846976 := by
  obtain ⟨s, _, hi⟩ := has_iff.1 h
  have hi := in_iff.1 hi
  have := proper_iff.1 hi.1
  omega
theorem rminus_eq (a b : List Sp) : rmeet (rnorm a) (rnorm (rcompl (-1152921504606846976) (rnorm b))) = minus a b := by
  rw [rmeet_eq]
  obtain ⟨k1, _, k3⟩ := rcompl_ok (rnorm b) (-1152921504606846976) (rnorm_eq b ▸ nrm_normal b) (Int.le_refl _) (by decide) (fun t ht => (proper_iff.1 ((rnorm_eq b ▸ nrm_normal b : Normal (rnorm b)).1 t ht)).1)
  refine nf_ext rfl (minus_normal a b) fun n => ?_
  rw [minus_has, k3, rnorm_eq, nrm_has]
  cases h : hasB a n with
  | false => rfl
  | true => rw [decide_eq_true (has_range h)]; cases hasB b n <;> rfl
theorem runion_eq (a b : List Sp) : rnorm (a ++ b) = uni a b := by
  rw [rnorm_eq]
  exact nrm_eq (uni_normal a b) fun n => by rw [uni_has, has_append]
/-- The reference's Valid. -/
theorem valid_pairs {l : List Sp} : Normal l ↔ (∀ s ∈ l, properB s = true) ∧ ∀ i s t, l[i]? = some s → l[i + 1]? = some t → s.2 < t.1 := by
  constructor
  · rintro ⟨h1, h2⟩
    refine ⟨h1, fun i s t hs ht => ?_⟩
    obtain ⟨hi, rfl⟩ := List.getElem?_eq_some_iff.1 hs
    obtain ⟨hj, rfl⟩ := List.getElem?_eq_some_iff.1 ht
    exact List.pairwise_iff_getElem.1 h2 i (i + 1) hi hj (by omega)
  · rintro ⟨h1, h2⟩
    refine ⟨h1, ?_⟩
    induction l with
    | nil => exact List.Pairwise.nil
    | cons s l ih =>
      have ih' : Normal l := ⟨fun x hx => h1 x (List.mem_cons_of_mem _ hx), ih (fun x hx => h1 x (List.mem_cons_of_mem _ hx)) (fun i x y hx hy => h2 (i + 1) x y (by simpa using hx) (by simpa using hy))⟩
      refine List.pairwise_cons.2 ⟨fun x hx => ?_, ih'.2⟩
      cases l with
      | nil => simp at hx
      | cons t l =>
        have h0 := h2 0 s t rfl rfl
        rcases List.mem_cons.1 hx with rfl | hx
        · exact h0
        · have := ih'.head.2 x hx
          have := proper_iff.1 ih'.head.1
          omega

/-! ### sizes -/
def sizeS (l : List Sp) : Int := (l.map fun s => s.2 - s.1).sum
/-- How many of n numbers from lo on have a property. -/
def many (p : Int → Bool) : Nat → Int → Int
  | 0, _ => 0
  | k + 1, lo => (if p lo then 1 else 0) + many p k (lo + 1)
theorem many_add (p : Int → Bool) : ∀ (j k : Nat) (lo : Int), many p (j + k) lo = many p j lo + many p k (lo + j)
  | 0, k, lo => by rw [Nat.zero_add, show lo + ((0 : Nat) : Int) = lo by omega]; show _ = 0 + _; omega
  | j + 1, k, lo => by
    rw [show j + 1 + k = (j + k) + 1 by omega]
    show _ + many p (j + k) (lo + 1) = (_ + many p j (lo + 1)) + _
    rw [many_add p j k (lo + 1), show lo + 1 + (j : Int) = lo + ((j + 1 : Nat) : Int) by omega]; omega
theorem many_congr {p q : Int → Bool} : ∀ (k : Nat) (lo : Int), (∀ n, lo ≤ n → n < lo + k → p n = q n) → many p k lo = many q k lo
  | 0, _, _ => rfl
  | k + 1, lo, h => by
    show _ + _ = _ + _
    rw [h lo (by omega) (by omega), many_congr k (lo + 1) fun n h1 h2 => h n (by omega) (by omega)]
theorem many_false (k : Nat) (lo : Int) : many (fun _ => false) k lo = 0 := by
  induction k generalizing lo with
  | zero => rfl
  | succ k ih => show 0 + _ = _; rw [ih]; rfl
theorem many_true (k : Nat) (lo : Int) : many (fun _ => true) k lo = k := by
  induction k generalizing lo with
  | zero => rfl
  | succ k ih => show 1 + _ = _; rw [ih]; omega
theorem many_both (p q : Int → Bool) : ∀ (k : Nat) (lo : Int), many (fun n => p n || q n) k lo + many (fun n => p n && q n) k lo = many p k lo + many q k lo
  | 0, _ => rfl
  | k + 1, lo => by
    have := many_both p q k (lo + 1)
    simp only [many]
    rcases Bool.eq_false_or_eq_true (p lo) with h1 | h1 <;> rcases Bool.eq_false_or_eq_true (q lo) with h2 | h2 <;> simp [h1, h2] <;> omega
theorem many_but (p q : Int → Bool) : ∀ (k : Nat) (lo : Int), many (fun n => p n && !q n) k lo + many (fun n => p n && q n) k lo = many p k lo
  | 0, _ => rfl
  | k + 1, lo => by
    have := many_but p q k (lo + 1)
    simp only [many]
    rcases Bool.eq_false_or_eq_true (p lo) with h1 | h1 <;> rcases Bool.eq_false_or_eq_true (q lo) with h2 | h2 <;> simp [h1, h2] <;> omega
theorem size_many : ∀ (l : List Sp) (k : Nat) (lo : Int), Normal l → (∀ s ∈ l, lo ≤ s.1 ∧ s.2 ≤ lo + k) → sizeS l = many (hasB l) k lo
  | [], k, lo, _, _ => by
    have : (hasB ([] : List Sp)) = fun _ => false := rfl
    rw [this, many_false]; rfl
  | s :: l, k, lo, hn, hb => by
    have ps := proper_iff.1 hn.head.1
    have h0 := hb s List.mem_cons_self
    obtain ⟨i, hi⟩ : ∃ i : Nat, (i : Int) = s.1 - lo := ⟨(s.1 - lo).toNat, by omega⟩
    obtain ⟨j, hj⟩ : ∃ j : Nat, (j : Int) = s.2 - s.1 := ⟨(s.2 - s.1).toNat, by omega⟩
    obtain ⟨m, hm⟩ : ∃ m : Nat, k = i + (j + m) := ⟨k - (i + j), by omega⟩
    have e : sizeS (s :: l) = (s.2 - s.1) + sizeS l := rfl
    rw [e, hm, many_add, many_add, show lo + (i : Int) = s.1 by omega, show s.1 + (j : Int) = s.2 by omega]
    rw [many_congr (q := fun _ => false) i lo (fun n h1 h2 => has_before fun x hx => by
      rcases List.mem_cons.1 hx with rfl | hx
      · omega
      · have := hn.head.2 x hx; omega), many_false]
    rw [many_congr (q := fun _ => true) j s.1 (fun n h1 h2 => has_iff.2 ⟨s, List.mem_cons_self, in_iff.2 ⟨hn.head.1, by omega⟩⟩), many_true]
    rw [many_congr (p := hasB (s :: l)) (q := hasB l) m s.2 (fun n h1 h2 => by
      rw [has_cons]
      have : inB s n = false := by unfold inB; rw [decide_eq_false (p := s.1 ≤ n ∧ n < s.2) (by omega), Bool.and_false]
      rw [this, Bool.false_or])]
    rw [size_many l m s.2 hn.tail (fun x hx => by have := hn.head.2 x hx; have := hb x (List.mem_cons_of_mem _ hx); omega)]
    omega
theorem size_of {l : List Sp} (h : Normal l) : sizeS l = many (hasB l) 2305843009213693952 (-1152921504606846976) :=
  size_many l _ _ h fun s hs => by have := proper_iff.1 (h.1 s hs); omega
theorem many_bd (p : Int → Bool) : ∀ (k : Nat) (lo : Int), 0 ≤ many p k lo ∧ many p k lo ≤ k
  | 0, _ => ⟨Int.le_refl _, Int.le_refl _⟩
  | k + 1, lo => by
    have := many_bd p k (lo + 1)
    show 0 ≤ _ + _ ∧ _ + _ ≤ _
    cases p lo <;> simp <;> omega
theorem size_bd {l : List Sp} (h : Normal l) : 0 ≤ sizeS l ∧ sizeS l ≤ 2305843009213693952 := by rw [size_of h]; exact many_bd _ _ _
theorem size_laws (a b : List Sp) : sizeS (uni a b) + sizeS (meet a b) = sizeS (nrm a) + sizeS (nrm b) ∧ sizeS (minus a b) + sizeS (meet a b) = sizeS (nrm a) := by
  rw [size_of (uni_normal a b), size_of (meet_normal a b), size_of (minus_normal a b), size_of (nrm_normal a), size_of (nrm_normal b)]
  have e1 : hasB (uni a b) = fun n => hasB a n || hasB b n := funext fun n => uni_has a b n
  have e2 : hasB (meet a b) = fun n => hasB a n && hasB b n := funext fun n => meet_has a b n
  have e3 : hasB (minus a b) = fun n => hasB a n && !hasB b n := funext fun n => minus_has a b n
  have e4 : hasB (nrm a) = hasB a := funext fun n => nrm_has a n
  have e5 : hasB (nrm b) = hasB b := funext fun n => nrm_has b n
  rw [e1, e2, e3, e4, e5]
  exact ⟨many_both _ _ _ _, many_but _ _ _ _⟩
theorem size_zero {l : List Sp} (h : Normal l) : sizeS l = 0 ↔ l = [] := by
  constructor
  · intro h0
    cases l with
    | nil => rfl
    | cons s l =>
      have e : sizeS (s :: l) = (s.2 - s.1) + sizeS l := rfl
      have := proper_iff.1 h.head.1
      have := size_bd h.tail
      omega
  · rintro rfl; rfl

/-! ### shifting -/
def shift (l : List Sp) (k : Int) : List Sp := l.map fun s => (s.1 + k, s.2 + k)
def Near (l : List Sp) : Prop := ∀ s ∈ l, -1125899906842624 ≤ s.1 ∧ s.1 ≤ 1125899906842624 ∧ -1125899906842624 ≤ s.2 ∧ s.2 ≤ 1125899906842624
theorem shift_has {l : List Sp} (h : Near l) {k : Int} (k0 : -1125899906842624 ≤ k) (k1 : k ≤ 1125899906842624) (n : Int) : hasB (shift l k) n = hasB l (n - k) := by
  unfold shift hasB
  rw [List.any_map]
  rw [Bool.eq_iff_iff, List.any_eq_true, List.any_eq_true]
  have e : ∀ s ∈ l, ((fun s => inB s n) ∘ fun s : Sp => (s.1 + k, s.2 + k)) s = inB s (n - k) := by
    intro s hs
    have := h s hs
    show inB (s.1 + k, s.2 + k) n = _
    rw [Bool.eq_iff_iff, in_iff, in_iff, proper_iff, proper_iff]
    simp only
    omega
  constructor
  · rintro ⟨s, hs, hi⟩; exact ⟨s, hs, by rw [← e s hs]; exact hi⟩
  · rintro ⟨s, hs, hi⟩; exact ⟨s, hs, by rw [e s hs]; exact hi⟩
theorem shift_normal {l : List Sp} (h : Near l) (hn : Normal l) {k : Int} (k0 : -1125899906842624 ≤ k) (k1 : k ≤ 1125899906842624) : Normal (shift l k) := by
  refine ⟨fun s hs => ?_, ?_⟩
  · unfold shift at hs
    obtain ⟨x, hx, rfl⟩ := List.mem_map.1 hs
    have := h x hx
    have := proper_iff.1 (hn.1 x hx)
    exact proper_iff.2 (by simp only; omega)
  · unfold shift
    rw [List.pairwise_map]
    exact hn.2.imp fun h => by simp only; omega
theorem shift_unnormal {l : List Sp} (h : Near l) {k : Int} (hn : Normal (shift l k)) : Normal l := by
  refine ⟨fun s hs => ?_, ?_⟩
  · have := proper_iff.1 (hn.1 (s.1 + k, s.2 + k) (List.mem_map.2 ⟨s, hs, rfl⟩))
    simp only at this
    have := h s hs
    exact proper_iff.2 (by omega)
  · have := hn.2
    unfold shift at this
    rw [List.pairwise_map] at this
    exact this.imp fun h => by simp only at h; omega
theorem nf_near (bf : Bool → Bool → Bool) {a b : List Sp} (ha : Near a) (hb : Near b) : Near (nf bf a b) := by
  have hB : BoundE (sortE (edges a b)) := fun e he => edges_bound a b e ((sortE_perm _).mem_iff.1 he)
  have hE : ∀ e ∈ sortE (edges a b), -1125899906842624 ≤ e.off ∧ e.off ≤ 1125899906842624 := by
    intro e he
    have he := (sortE_perm _).mem_iff.1 he
    unfold edges at he
    rcases List.mem_append.1 he with he | he
    · obtain ⟨s, hs, h⟩ := List.mem_flatMap.1 he
      have := ha s hs
      unfold edF at h
      split at h
      · rcases List.mem_cons.1 h with rfl | h
        · show _ ≤ s.1 ∧ s.1 ≤ _; omega
        · rcases List.mem_cons.1 h with rfl | h
          · show _ ≤ s.2 ∧ s.2 ≤ _; omega
          · simp at h
      · simp at h
    · obtain ⟨s, hs, h⟩ := List.mem_flatMap.1 he
      have := hb s hs
      unfold edS at h
      split at h
      · rcases List.mem_cons.1 h with rfl | h
        · show _ ≤ s.1 ∧ s.1 ≤ _; omega
        · rcases List.mem_cons.1 h with rfl | h
          · show _ ≤ s.2 ∧ s.2 ≤ _; omega
          · simp at h
      · simp at h
  intro t ht
  have := (swp_normal (bf := bf) (sortE (edges a b)) 0 0 false 0 (sortE_sorted _) hB (fun h => by cases h)).2 t ht
  obtain ⟨h1, x, hx, hx2⟩ := this
  rcases h1 with ⟨h, _⟩ | ⟨y, hy, hy2⟩
  · cases h
  · have := hE x hx; have := hE y hy; omega
theorem nf_shift {bf : Bool → Bool → Bool} (h0 : bf false false = false) {a b : List Sp} (ha : Near a) (hb : Near b) {k : Int} (k0 : -1125899906842624 ≤ k) (k1 : k ≤ 1125899906842624) :
    nf bf (shift a k) (shift b k) = shift (nf bf a b) k :=
  nf_ext h0 (shift_normal (nf_near bf ha hb) (nf_normal h0 a b) k0 k1) fun n => by
    rw [shift_has (nf_near bf ha hb) k0 k1, nf_has h0, shift_has ha k0 k1, shift_has hb k0 k1]
theorem size_shift (l : List Sp) (k : Int) : sizeS (shift l k) = sizeS l := by
  unfold sizeS shift
  rw [List.map_map]
  congr 1
  refine List.map_congr_left fun s _ => ?_
  show (s.2 + k) - (s.1 + k) = s.2 - s.1
  omega
theorem near_nil : Near [] := fun s hs => by simp at hs
theorem nrm_shift {a : List Sp} (ha : Near a) {k : Int} (k0 : -1125899906842624 ≤ k) (k1 : k ≤ 1125899906842624) : nrm (shift a k) = shift (nrm a) k := nf_shift (b := []) rfl ha near_nil k0 k1
end WageSpan
