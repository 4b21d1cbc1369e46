/-
 Sets of spans, zones, the planner in plain words.
-/

namespace WageSpan
abbrev Sp := Int × Int
def properB (s : Sp) : Bool := decide (-1152921504606846976 ≤ s.1 ∧ s.2 ≤ 1152921504606846976 ∧ s.1 < s.2)
def inB (s : Sp) (n : Int) : Bool := properB s && decide (s.1 ≤ n ∧ n < s.2)
def hasB (l : List Sp) (n : Int) : Bool := l.any fun s => inB s n
def Normal (l : List Sp) : Prop := (∀ s ∈ l, properB s = true) ∧ l.Pairwise fun a b => a.2 < b.1
theorem proper_iff {s : Sp} : properB s = true ↔ -1152921504606846976 ≤ s.1 ∧ s.2 ≤ 1152921504606846976 ∧ s.1 < s.2 := by unfold properB; exact decide_eq_true_iff
theorem in_iff {s : Sp} {n : Int} : inB s n = true ↔ properB s = true ∧ s.1 ≤ n ∧ n < s.2 := by unfold inB; rw [Bool.and_eq_true, decide_eq_true_iff]
theorem has_nil (n : Int) : hasB [] n = false := rfl
theorem has_cons (s : Sp) (l : List Sp) (n : Int) : hasB (s :: l) n = (inB s n || hasB l n) := rfl
theorem has_append (l k : List Sp) (n : Int) : hasB (l ++ k) n = (hasB l n || hasB k n) := by unfold hasB; rw [List.any_append]
theorem has_iff {l : List Sp} {n : Int} : hasB l n = true ↔ ∃ s ∈ l, inB s n = true := by unfold hasB; rw [List.any_eq_true]
theorem Normal.tail {s : Sp} {l : List Sp} (h : Normal (s :: l)) : Normal l := ⟨fun x hx => h.1 x (List.mem_cons_of_mem _ hx), (List.pairwise_cons.1 h.2).2⟩
theorem Normal.head {s : Sp} {l : List Sp} (h : Normal (s :: l)) : properB s = true ∧ ∀ x ∈ l, s.2 < x.1 := ⟨h.1 s List.mem_cons_self, (List.pairwise_cons.1 h.2).1⟩
theorem Normal.cons {s : Sp} {l : List Sp} (h : Normal l) (hs : properB s = true) (hg : ∀ x ∈ l, s.2 < x.1) : Normal (s :: l) :=
 ⟨fun x hx => by rcases List.mem_cons.1 hx with rfl | hx <;> first | exact hs | exact h.1 x hx, List.pairwise_cons.2 ⟨hg, h.2⟩⟩
theorem Normal.nil : Normal [] := ⟨fun x hx => by simp at hx, List.Pairwise.nil⟩
theorem Normal.first {s : Sp} {l : List Sp} (h : Normal (s :: l)) {n : Int} (hn : hasB (s :: l) n = true) : s.1 ≤ n := by
 obtain ⟨x, hx, hi⟩ := has_iff.1 hn
 have hi := in_iff.1 hi
 rcases List.mem_cons.1 hx with rfl | hx
 ·exact hi.2.1
 ·have h1 := h.head.2 x hx
  have h2 := (proper_iff.1 h.head.1).2.2
  omega
theorem Normal.gap {s : Sp} {l : List Sp} (h : Normal (s :: l)) {n : Int} (h1 : s.2 ≤ n) (hn : hasB (s :: l) n = true) : s.2 < n := by
 obtain ⟨x, hx, hi⟩ := has_iff.1 hn
 have hi := in_iff.1 hi
 rcases List.mem_cons.1 hx with rfl | hx
 ·omega
 ·have := h.head.2 x hx; omega
theorem Normal.rest {s : Sp} {l : List Sp} (h : Normal (s :: l)) (n : Int) : hasB l n = (hasB (s :: l) n && decide (s.2 < n)) := by
 rw [Bool.eq_iff_iff, Bool.and_eq_true, decide_eq_true_iff, has_cons, Bool.or_eq_true]
 constructor
 ·intro hn
  obtain ⟨x, hx, hi⟩ := has_iff.1 hn
  have := h.head.2 x hx
  have := (in_iff.1 hi).2
  exact ⟨.inr hn, by omega⟩
 ·rintro ⟨hn | hn, hl⟩
  ·have := (in_iff.1 hn).2; omega
  ·exact hn
/-- A normal form is determined by its elements. -/
theorem Normal.ext : ∀ {l k : List Sp}, Normal l → Normal k → (∀ n, hasB l n = hasB k n) → l = k
 | [], [], _, _, _ => rfl
 | [], s :: k, _, hk, h => by
  have h1 : hasB (s :: k) s.1 = true := has_iff.2 ⟨s, List.mem_cons_self, in_iff.2 ⟨hk.head.1, by have := proper_iff.1 hk.head.1; omega⟩⟩
  rw [← h, has_nil] at h1; cases h1
 | s :: l, [], hl, _, h => by
  have h1 : hasB (s :: l) s.1 = true := has_iff.2 ⟨s, List.mem_cons_self, in_iff.2 ⟨hl.head.1, by have := proper_iff.1 hl.head.1; omega⟩⟩
  rw [h, has_nil] at h1; cases h1
 | s :: l, t :: k, hl, hk, h => by
  have ps := proper_iff.1 hl.head.1
  have pt := proper_iff.1 hk.head.1
  have h1 : hasB (s :: l) s.1 = true := has_iff.2 ⟨s, List.mem_cons_self, in_iff.2 ⟨hl.head.1, by omega⟩⟩
  have h2 : hasB (t :: k) t.1 = true := has_iff.2 ⟨t, List.mem_cons_self, in_iff.2 ⟨hk.head.1, by omega⟩⟩
  have e1 : s.1 = t.1 := by
   have a1 := hk.first (h s.1 ▸ h1)
   have a2 := hl.first ((h t.1).symm ▸ h2)
   omega
  have e2 : s.2 = t.2 := by
   rcases Int.lt_trichotomy s.2 t.2 with hlt | he | hlt
   ·have a1 : hasB (t :: k) s.2 = true := has_iff.2 ⟨t, List.mem_cons_self, in_iff.2 ⟨hk.head.1, by omega⟩⟩
    rw [← h] at a1
    have := hl.gap (Int.le_refl _) a1; omega
   ·exact he
   ·have a1 : hasB (s :: l) t.2 = true := has_iff.2 ⟨s, List.mem_cons_self, in_iff.2 ⟨hl.head.1, by omega⟩⟩
    rw [h] at a1
    have := hk.gap (Int.le_refl _) a1; omega
  have e : s = t := Prod.ext e1 e2
  subst e
  rw [Normal.ext hl.tail hk.tail fun n => by rw [hl.rest, hk.rest, h]]
/-! ### The sweep -/
structure Ed where
 off : Int
 fi : Int
 se : Int
deriving DecidableEq
def cF (E : List Ed) (n : Int) : Int := (E.map fun e => if e.off ≤ n then e.fi else 0).sum
def cS (E : List Ed) (n : Int) : Int := (E.map fun e => if e.off ≤ n then e.se else 0).sum
def sF (E : List Ed) : Int := (E.map fun e => e.fi).sum
def sS (E : List Ed) : Int := (E.map fun e => e.se).sum
def sameNext (e : Ed) : List Ed → Bool
 | [] => false
 | x :: _ => x.off == e.off
/-- What sweep appends, from a state on. -/
def swp (bf : Bool → Bool → Bool) : List Ed → Int → Int → Bool → Int → List Sp
 | [], _, _, _, _ => []
 | e :: E, f, s, op, st =>
  if sameNext e E then swp bf E (f + e.fi) (s + e.se) op st
  else if bf (decide (0 < f + e.fi)) (decide (0 < s + e.se)) == op then swp bf E (f + e.fi) (s + e.se) op st
  else (if op then [(st, e.off)] else []) ++ swp bf E (f + e.fi) (s + e.se) (bf (decide (0 < f + e.fi)) (decide (0 < s + e.se))) e.off
def SortedE (E : List Ed) : Prop := E.Pairwise fun a b => a.off ≤ b.off
def BoundE (E : List Ed) : Prop := ∀ e ∈ E, -1152921504606846976 ≤ e.off ∧ e.off ≤ 1152921504606846976
theorem cF_cons (e : Ed) (E : List Ed) (n : Int) : cF (e :: E) n = (if e.off ≤ n then e.fi else 0) + cF E n := rfl
theorem cS_cons (e : Ed) (E : List Ed) (n : Int) : cS (e :: E) n = (if e.off ≤ n then e.se else 0) + cS E n := rfl
theorem sF_cons (e : Ed) (E : List Ed) : sF (e :: E) = e.fi + sF E := rfl
theorem sS_cons (e : Ed) (E : List Ed) : sS (e :: E) = e.se + sS E := rfl
theorem c_zero : ∀ {E : List Ed} {n : Int}, (∀ e ∈ E, n < e.off) → cF E n = 0 ∧ cS E n = 0
 | [], _, _ => ⟨rfl, rfl⟩
 | e :: E, n, h => by
  obtain ⟨h1, h2⟩ := c_zero (E := E) (n := n) fun x hx => h x (List.mem_cons_of_mem _ hx)
  have := h e List.mem_cons_self
  rw [cF_cons, cS_cons, if_neg (by omega), if_neg (by omega), h1, h2]
  exact ⟨rfl, rfl⟩
/-- Whether n is an element, as the sweep's state tells it. -/
def tells (bf : Bool → Bool → Bool) (E : List Ed) (f s : Int) (op : Bool) (st n : Int) : Bool :=
 match E with
 | [] => false
 | e :: _ => if n < e.off then op && decide (st ≤ n) else bf (decide (0 < f + cF E n)) (decide (0 < s + cS E n))
theorem swp_has {bf : Bool → Bool → Bool} (hb : bf false false = false) : ∀ (E : List Ed) (f s : Int) (op : Bool) (st : Int), SortedE E → BoundE E → (op = true → -1152921504606846976 ≤ st ∧ ∀ e ∈ E, st < e.off) →
  f + sF E = 0 → s + sS E = 0 → ∀ n, hasB (swp bf E f s op st) n = tells bf E f s op st n
 | [], f, s, op, st, _, _, _, _, _, n => rfl
 | e :: E, f, s, op, st, hs, hB, ho, hf, hse, n => by
  have hs' : SortedE E := (List.pairwise_cons.1 hs).2
  have hle : ∀ x ∈ E, e.off ≤ x.off := (List.pairwise_cons.1 hs).1
  have hB' : BoundE E := fun x hx => hB x (List.mem_cons_of_mem _ hx)
  have hBe := hB e List.mem_cons_self
  rw [sF_cons] at hf
  rw [sS_cons] at hse
  unfold swp
  cases hsn : sameNext e E with
  | true =>
   rw [if_pos rfl]
   cases E with
   | nil => cases hsn
   | cons x E =>
    have hx : x.off = e.off := by simpa [sameNext] using hsn
    rw [swp_has hb (x :: E) (f + e.fi) (s + e.se) op st hs' hB' (fun h => ⟨(ho h).1, fun y hy => (ho h).2 y (List.mem_cons_of_mem _ hy)⟩) (by omega) (by omega) n]
    unfold tells
    simp only
    by_cases hn : n < e.off
    ·rw [if_pos (by omega), if_pos hn]
    ·rw [if_neg (by omega), if_neg hn, cF_cons e, cS_cons e, if_pos (by omega), if_pos (by omega), Int.add_assoc, Int.add_assoc]
  | false =>
   rw [if_neg (by decide)]
   have hlt : ∀ x ∈ E, e.off < x.off := by
    cases E with
    | nil => intro x hx; simp at hx
    | cons y E =>
     have hy : y.off ≠ e.off := by simpa [sameNext] using hsn
     have hy1 := hle y List.mem_cons_self
     intro x hx
     rcases List.mem_cons.1 hx with rfl | hx
     ·omega
     ·have := (List.pairwise_cons.1 hs').1 x hx; omega
   obtain ⟨ins, hins⟩ : ∃ ins, bf (decide (0 < f + e.fi)) (decide (0 < s + e.se)) = ins := ⟨_, rfl⟩
   rw [hins]
   have hnil : E = [] → ins = false := by
    rintro rfl
    have h1 : f + e.fi = 0 := by have : sF ([] : List Ed) = 0 := rfl; omega
    have h2 : s + e.se = 0 := by have : sS ([] : List Ed) = 0 := rfl; omega
    rw [← hins, h1, h2]; exact hb
   -- what the rest tells
   have key : ∀ (op' : Bool) (st' : Int), (op' = true → -1152921504606846976 ≤ st' ∧ ∀ x ∈ E, st' < x.off) → (E = [] → op' = false) → (op' = true → st' ≤ e.off) → op' = ins →
     hasB (swp bf E (f + e.fi) (s + e.se) op' st') n = if n < e.off then op' && decide (st' ≤ n) else bf (decide (0 < f + cF (e :: E) n)) (decide (0 < s + cS (e :: E) n)) := by
    intro op' st' h1 h2 h3 h4
    rw [swp_has hb E (f + e.fi) (s + e.se) op' st' hs' hB' h1 (by omega) (by omega) n]
    cases E with
    | nil =>
     have := h2 rfl
     subst this
     unfold tells
     simp only
     by_cases hn : n < e.off
     ·rw [if_pos hn]; rfl
     ·rw [if_neg hn, cF_cons, cS_cons, if_pos (by omega), if_pos (by omega)]
      show false = bf (decide (0 < f + (e.fi + 0))) (decide (0 < s + (e.se + 0)))
      rw [Int.add_zero, Int.add_zero, hins, ← h4]
    | cons y E =>
     have hy := hlt y List.mem_cons_self
     unfold tells
     simp only
     by_cases hn : n < e.off
     ·rw [if_pos (by omega), if_pos hn]
     ·rw [if_neg hn]
      by_cases hn2 : n < y.off
      ·rw [if_pos hn2]
       obtain ⟨z1, z2⟩ := c_zero (E := y :: E) (n := n) (by
        intro x hx
        rcases List.mem_cons.1 hx with rfl | hx
        ·exact hn2
        ·have := (List.pairwise_cons.1 hs').1 x hx; omega)
       rw [cF_cons, cS_cons, if_pos (by omega), if_pos (by omega), z1, z2, Int.add_zero, Int.add_zero, hins, h4]
       cases ins with
       | false => rfl
       | true => rw [decide_eq_true (by have := h3 h4; omega)]; rfl
      ·rw [if_neg hn2, cF_cons e, cS_cons e, if_pos (by omega), if_pos (by omega), Int.add_assoc, Int.add_assoc]
   show _ = if n < e.off then op && decide (st ≤ n) else bf (decide (0 < f + cF (e :: E) n)) (decide (0 < s + cS (e :: E) n))
   by_cases hio : ins = op
   ·subst hio
    rw [if_pos (by simp)]
    exact key ins st (fun h => ⟨(ho h).1, fun x hx => (ho h).2 x (List.mem_cons_of_mem _ hx)⟩) hnil (fun h => by have := (ho h).2 e List.mem_cons_self; omega) rfl
   ·rw [if_neg (by simpa using hio)]
    cases op with
    | true =>
     obtain rfl : ins = false := by cases ins <;> simp_all
     have h1 := ho rfl
     have h2 := h1.2 e List.mem_cons_self
     rw [if_pos rfl, has_append, key false e.off (fun h => by cases h) (fun _ => rfl) (fun h => by cases h) rfl]
     have hi : hasB [(st, e.off)] n = decide (st ≤ n ∧ n < e.off) := by
      rw [has_cons, has_nil, Bool.or_false]
      unfold inB
      rw [proper_iff.2 ⟨h1.1, hBe.2, h2⟩, Bool.true_and]
     rw [hi]
     by_cases hn : n < e.off
     ·rw [if_pos hn, if_pos hn]
      simp [hn]
     ·rw [if_neg hn, if_neg hn, decide_eq_false (by omega), Bool.false_or]
    | false =>
     obtain rfl : ins = true := by cases ins <;> simp_all
     rw [if_neg (by decide), List.nil_append, key true e.off (fun _ => ⟨hBe.1, hlt⟩) (fun h => by have := hnil h; cases this) (fun _ => Int.le_refl _) rfl]
     by_cases hn : n < e.off
     ·rw [if_pos hn, if_pos hn, decide_eq_false (by omega)]; rfl
     ·rw [if_neg hn, if_neg hn]
theorem swp_normal {bf : Bool → Bool → Bool} : ∀ (E : List Ed) (f s : Int) (op : Bool) (st : Int), SortedE E → BoundE E → (op = true → -1152921504606846976 ≤ st ∧ ∀ e ∈ E, st < e.off) →
  Normal (swp bf E f s op st) ∧ ∀ t ∈ swp bf E f s op st, ((op = true ∧ t.1 = st) ∨ ∃ e ∈ E, t.1 = e.off) ∧ ∃ e ∈ E, t.2 = e.off
 | [], f, s, op, st, _, _, _ => ⟨Normal.nil, fun t ht => by simp [swp] at ht⟩
 | e :: E, f, s, op, st, hs, hB, ho => by
  have hs' : SortedE E := (List.pairwise_cons.1 hs).2
  have hle : ∀ x ∈ E, e.off ≤ x.off := (List.pairwise_cons.1 hs).1
  have hB' : BoundE E := fun x hx => hB x (List.mem_cons_of_mem _ hx)
  have hBe := hB e List.mem_cons_self
  have up : ∀ {t : Sp} {op' : Bool} {st' : Int}, (((op' = true ∧ t.1 = st') ∨ ∃ x ∈ E, t.1 = x.off) ∧ ∃ x ∈ E, t.2 = x.off) → ((op' = true ∧ t.1 = st') ∨ ∃ x ∈ e :: E, t.1 = x.off) ∧ ∃ x ∈ e :: E, t.2 = x.off := by
   rintro t op' st' ⟨h1, x, hx, h2⟩
   refine ⟨?_, x, List.mem_cons_of_mem _ hx, h2⟩
   rcases h1 with h1 | ⟨y, hy, h1⟩
   ·exact .inl h1
   ·exact .inr ⟨y, List.mem_cons_of_mem _ hy, h1⟩
  have hoE : op = true → -1152921504606846976 ≤ st ∧ ∀ x ∈ E, st < x.off := fun h => ⟨(ho h).1, fun x hx => (ho h).2 x (List.mem_cons_of_mem _ hx)⟩
  unfold swp
  cases hsn : sameNext e E with
  | true =>
   rw [if_pos rfl]
   obtain ⟨h1, h2⟩ := swp_normal (bf := bf) E (f + e.fi) (s + e.se) op st hs' hB' hoE
   exact ⟨h1, fun t ht => up (h2 t ht)⟩
  | false =>
   rw [if_neg (by decide)]
   have hlt : ∀ x ∈ E, e.off < x.off := by
    cases E with
    | nil => intro x hx; simp at hx
    | cons y E =>
     have hy : y.off ≠ e.off := by simpa [sameNext] using hsn
     have hy1 := hle y List.mem_cons_self
     intro x hx
     rcases List.mem_cons.1 hx with rfl | hx
     ·omega
     ·have := (List.pairwise_cons.1 hs').1 x hx; omega
   obtain ⟨ins, hins⟩ : ∃ ins, bf (decide (0 < f + e.fi)) (decide (0 < s + e.se)) = ins := ⟨_, rfl⟩
   rw [hins]
   by_cases hio : ins = op
   ·rw [if_pos (by simp [hio])]
    obtain ⟨h1, h2⟩ := swp_normal (bf := bf) E (f + e.fi) (s + e.se) op st hs' hB' hoE
    exact ⟨h1, fun t ht => up (h2 t ht)⟩
   ·rw [if_neg (by simpa using hio)]
    cases op with
    | true =>
     obtain rfl : ins = false := by cases ins <;> simp_all
     have h0 := ho rfl
     have h00 := h0.2 e List.mem_cons_self
     obtain ⟨h1, h2⟩ := swp_normal (bf := bf) E (f + e.fi) (s + e.se) false e.off hs' hB' (fun h => by cases h)
     rw [if_pos rfl]
     show Normal ((st, e.off) :: _) ∧ ∀ t ∈ (st, e.off) :: _, _
     refine ⟨h1.cons (proper_iff.2 ⟨h0.1, hBe.2, h00⟩) fun t ht => ?_, fun t ht => ?_⟩
     ·rcases (h2 t ht).1 with ⟨h, _⟩ | ⟨x, hx, hx2⟩
      ·cases h
      ·have := hlt x hx; show e.off < t.1; omega
     ·rcases List.mem_cons.1 ht with rfl | ht
      ·exact ⟨.inl ⟨rfl, rfl⟩, e, List.mem_cons_self, rfl⟩
      ·have := up (h2 t ht)
       refine ⟨?_, this.2⟩
       rcases this.1 with ⟨h, _⟩ | h
       ·cases h
       ·exact .inr h
    | false =>
     obtain rfl : ins = true := by cases ins <;> simp_all
     rw [if_neg (by decide), List.nil_append]
     obtain ⟨h1, h2⟩ := swp_normal (bf := bf) E (f + e.fi) (s + e.se) true e.off hs' hB' (fun _ => ⟨hBe.1, hlt⟩)
     refine ⟨h1, fun t ht => ?_⟩
     have := up (h2 t ht)
     refine ⟨?_, this.2⟩
     rcases this.1 with ⟨_, h⟩ | h
     ·exact .inr ⟨e, List.mem_cons_self, h⟩
     ·exact .inr h
/-! ### The bounds of two lists -/
def edF (s : Sp) : List Ed := if properB s then [⟨s.1, 1, 0⟩, ⟨s.2, -1, 0⟩] else []
def edS (s : Sp) : List Ed := if properB s then [⟨s.1, 0, 1⟩, ⟨s.2, 0, -1⟩] else []
def edges (a b : List Sp) : List Ed := a.flatMap edF ++ b.flatMap edS
def cnt (l : List Sp) (n : Int) : Int := (l.map fun s => if inB s n then 1 else 0).sum
theorem cnt_pos : ∀ (l : List Sp) (n : Int), 0 ≤ cnt l n ∧ decide (0 < cnt l n) = hasB l n
 | [], _ => ⟨Int.le_refl _, rfl⟩
 | s :: l, n => by
  obtain ⟨h1, h2⟩ := cnt_pos l n
  have e : cnt (s :: l) n = (if inB s n then 1 else 0) + cnt l n := rfl
  rw [e, has_cons]
  cases inB s n with
  | true => simp only [Bool.true_or]; exact ⟨by simp; omega, decide_eq_true (by simp; omega)⟩
  | false => simp only [Bool.false_or]; exact ⟨by simp; omega, by rw [← h2]; simp⟩
theorem cF_append (E K : List Ed) (n : Int) : cF (E ++ K) n = cF E n + cF K n := by unfold cF; rw [List.map_append, List.sum_append]
theorem cS_append (E K : List Ed) (n : Int) : cS (E ++ K) n = cS E n + cS K n := by unfold cS; rw [List.map_append, List.sum_append]
theorem sF_append (E K : List Ed) : sF (E ++ K) = sF E + sF K := by unfold sF; rw [List.map_append, List.sum_append]
theorem sS_append (E K : List Ed) : sS (E ++ K) = sS E + sS K := by unfold sS; rw [List.map_append, List.sum_append]
theorem edF_c (n : Int) : ∀ a : List Sp, cF (a.flatMap edF) n = cnt a n ∧ cS (a.flatMap edF) n = 0 ∧ sF (a.flatMap edF) = 0 ∧ sS (a.flatMap edF) = 0
 | [] => ⟨rfl, rfl, rfl, rfl⟩
 | s :: a => by
  obtain ⟨h1, h2, h3, h4⟩ := edF_c n a
  have e : cnt (s :: a) n = (if inB s n then 1 else 0) + cnt a n := rfl
  rw [List.flatMap_cons, cF_append, cS_append, sF_append, sS_append, h1, h2, h3, h4, e]
  cases hp : properB s with
  | false =>
   have : inB s n = false := by unfold inB; rw [hp]; rfl
   rw [this]
   unfold edF
   rw [hp]
   exact ⟨rfl, rfl, rfl, rfl⟩
  | true =>
   have hq := proper_iff.1 hp
   have hi : inB s n = decide (s.1 ≤ n ∧ n < s.2) := by unfold inB; rw [hp, Bool.true_and]
   unfold edF
   rw [hp, hi, if_pos rfl]
   refine ⟨?_, ?_, ?_, ?_⟩
   ·show (if s.1 ≤ n then 1 else 0) + ((if s.2 ≤ n then -1 else 0) + 0) + cnt a n = _
    by_cases h1 : s.1 ≤ n <;> by_cases h2 : s.2 ≤ n <;> simp [h1, h2] <;> omega
   ·show (if s.1 ≤ n then 0 else 0) + ((if s.2 ≤ n then 0 else 0) + 0) + (0 : Int) = 0
    simp
   ·rfl
   ·rfl
theorem edS_c (n : Int) : ∀ a : List Sp, cS (a.flatMap edS) n = cnt a n ∧ cF (a.flatMap edS) n = 0 ∧ sS (a.flatMap edS) = 0 ∧ sF (a.flatMap edS) = 0
 | [] => ⟨rfl, rfl, rfl, rfl⟩
 | s :: a => by
  obtain ⟨h1, h2, h3, h4⟩ := edS_c n a
  have e : cnt (s :: a) n = (if inB s n then 1 else 0) + cnt a n := rfl
  rw [List.flatMap_cons, cF_append, cS_append, sF_append, sS_append, h1, h2, h3, h4, e]
  cases hp : properB s with
  | false =>
   have : inB s n = false := by unfold inB; rw [hp]; rfl
   rw [this]
   unfold edS
   rw [hp]
   exact ⟨rfl, rfl, rfl, rfl⟩
  | true =>
   have hq := proper_iff.1 hp
   have hi : inB s n = decide (s.1 ≤ n ∧ n < s.2) := by unfold inB; rw [hp, Bool.true_and]
   unfold edS
   rw [hp, hi, if_pos rfl]
   refine ⟨?_, ?_, ?_, ?_⟩
   ·show (if s.1 ≤ n then 1 else 0) + ((if s.2 ≤ n then -1 else 0) + 0) + cnt a n = _
    by_cases h1 : s.1 ≤ n <;> by_cases h2 : s.2 ≤ n <;> simp [h1, h2] <;> omega
   ·show (if s.1 ≤ n then 0 else 0) + ((if s.2 ≤ n then 0 else 0) + 0) + (0 : Int) = 0
    simp
   ·rfl
   ·rfl
theorem sum_perm {l k : List Int} (h : l.Perm k) : l.sum = k.sum := by
 induction h with
 | nil => rfl
 | cons x _ ih => simp [ih]
 | swap x y l => simp; omega
 | trans _ _ h1 h2 => exact h1.trans h2
theorem edges_bound (a b : List Sp) : BoundE (edges a b) := by
 intro e he
 unfold edges at he
 rcases List.mem_append.1 he with he | he
 ·obtain ⟨s, _, hs⟩ := List.mem_flatMap.1 he
  unfold edF at hs
  split at hs
  ·rename_i hp
   have := proper_iff.1 hp
   rcases List.mem_cons.1 hs with rfl | hs
   ·show _ ≤ s.1 ∧ s.1 ≤ _; omega
   ·rcases List.mem_cons.1 hs with rfl | hs
    ·show _ ≤ s.2 ∧ s.2 ≤ _; omega
    ·simp at hs
  ·simp at hs
 ·obtain ⟨s, _, hs⟩ := List.mem_flatMap.1 he
  unfold edS at hs
  split at hs
  ·rename_i hp
   have := proper_iff.1 hp
   rcases List.mem_cons.1 hs with rfl | hs
   ·show _ ≤ s.1 ∧ s.1 ≤ _; omega
   ·rcases List.mem_cons.1 hs with rfl | hs
    ·show _ ≤ s.2 ∧ s.2 ≤ _; omega
    ·simp at hs
  ·simp at hs
theorem swept {bf : Bool → Bool → Bool} (hb : bf false false = false) {a b : List Sp} {E : List Ed} (hp : E.Perm (edges a b)) (hs : SortedE E) :
  Normal (swp bf E 0 0 false 0) ∧ ∀ n, hasB (swp bf E 0 0 false 0) n = bf (hasB a n) (hasB b n) := by
 have hB : BoundE E := fun e he => edges_bound a b e (hp.mem_iff.1 he)
 refine ⟨(swp_normal E 0 0 false 0 hs hB (fun h => by cases h)).1, fun n => ?_⟩
 obtain ⟨f1, f2, f3, f4⟩ := edF_c n a
 obtain ⟨g1, g2, g3, g4⟩ := edS_c n b
 have p1 : cF E n = cnt a n := by unfold cF; rw [sum_perm (hp.map _)]; show cF (edges a b) n = _; unfold edges; rw [cF_append, f1, g2, Int.add_zero]
 have p2 : cS E n = cnt b n := by unfold cS; rw [sum_perm (hp.map _)]; show cS (edges a b) n = _; unfold edges; rw [cS_append, f2, g1, Int.zero_add]
 have p3 : sF E = 0 := by unfold sF; rw [sum_perm (hp.map _)]; show sF (edges a b) = _; unfold edges; rw [sF_append, f3, g4]; rfl
 have p4 : sS E = 0 := by unfold sS; rw [sum_perm (hp.map _)]; show sS (edges a b) = _; unfold edges; rw [sS_append, f4, g3]; rfl
 rw [swp_has hb E 0 0 false 0 hs hB (fun h => by cases h) (by omega) (by omega) n]
 have q1 := (cnt_pos a n).2
 have q2 := (cnt_pos b n).2
 cases E with
 | nil =>
  unfold tells
  rw [← q1, ← q2, ← p1, ← p2]
  exact hb.symm
 | cons e E =>
  unfold tells
  simp only
  rw [Int.zero_add, Int.zero_add, p1, p2, q1, q2]
  by_cases hn : n < e.off
  ·rw [if_pos hn]
   obtain ⟨z1, z2⟩ := c_zero (E := e :: E) (n := n) (by
    intro x hx
    rcases List.mem_cons.1 hx with rfl | hx
    ·exact hn
    ·have := (List.pairwise_cons.1 hs).1 x hx; omega)
   rw [← q1, ← q2, ← p1, ← p2, z1, z2]
   exact hb.symm
  ·rw [if_neg hn]
/-! ### The normal form as a function -/
def insE (e : Ed) : List Ed → List Ed
 | [] => [e]
 | x :: l => if e.off ≤ x.off then e :: x :: l else x :: insE e l
def sortE : List Ed → List Ed
 | [] => []
 | e :: l => insE e (sortE l)
theorem insE_perm (e : Ed) : ∀ l, (insE e l).Perm (e :: l)
 | [] => List.Perm.refl _
 | x :: l => by
  unfold insE
  split
  ·exact List.Perm.refl _
  ·exact ((insE_perm e l).cons x).trans (List.Perm.swap e x l)
theorem sortE_perm : ∀ l, (sortE l).Perm l
 | [] => List.Perm.refl _
 | e :: l => (insE_perm e _).trans ((sortE_perm l).cons e)
theorem insE_sorted (e : Ed) : ∀ l, SortedE l → SortedE (insE e l)
 | [], _ => List.pairwise_singleton _ _
 | x :: l, h => by
  unfold insE
  split
  ·rename_i hle
   refine List.pairwise_cons.2 ⟨fun y hy => ?_, h⟩
   rcases List.mem_cons.1 hy with rfl | hy
   ·exact hle
   ·have := (List.pairwise_cons.1 h).1 y hy; omega
  ·rename_i hle
   refine List.pairwise_cons.2 ⟨fun y hy => ?_, insE_sorted e l (List.pairwise_cons.1 h).2⟩
   rcases List.mem_cons.1 ((insE_perm e l).mem_iff.1 hy) with rfl | hy
   ·omega
   ·exact (List.pairwise_cons.1 h).1 y hy
theorem sortE_sorted : ∀ l, SortedE (sortE l)
 | [] => List.Pairwise.nil
 | e :: l => insE_sorted e _ (sortE_sorted l)
def nf (bf : Bool → Bool → Bool) (a b : List Sp) : List Sp := swp bf (sortE (edges a b)) 0 0 false 0
theorem nf_normal {bf : Bool → Bool → Bool} (hb : bf false false = false) (a b : List Sp) : Normal (nf bf a b) := (swept hb (sortE_perm _) (sortE_sorted _)).1
theorem nf_has {bf : Bool → Bool → Bool} (hb : bf false false = false) (a b : List Sp) (n : Int) : hasB (nf bf a b) n = bf (hasB a n) (hasB b n) := (swept hb (sortE_perm _) (sortE_sorted _)).2 n
theorem swp_eq {bf : Bool → Bool → Bool} (hb : bf false false = false) {a b : List Sp} {E : List Ed} (hp : E.Perm (edges a b)) (hs : SortedE E) : swp bf E 0 0 false 0 = nf bf a b :=
 (swept hb hp hs).1.ext (nf_normal hb a b) fun n => by rw [(swept hb hp hs).2, nf_has hb]
def fstB (x _ : Bool) : Bool := x
def andB (x y : Bool) : Bool := x && y
def nrm (l : List Sp) : List Sp := nf fstB l []
def meet (a b : List Sp) : List Sp := nf andB a b
theorem nrm_normal (l : List Sp) : Normal (nrm l) := nf_normal rfl _ _
theorem meet_normal (a b : List Sp) : Normal (meet a b) := nf_normal rfl _ _
theorem nrm_has (l : List Sp) (n : Int) : hasB (nrm l) n = hasB l n := nf_has rfl _ _ _
theorem meet_has (a b : List Sp) (n : Int) : hasB (meet a b) n = (hasB a n && hasB b n) := nf_has rfl _ _ _
theorem nrm_eq {l k : List Sp} (h : Normal k) (he : ∀ n, hasB k n = hasB l n) : nrm l = k := (nrm_normal l).ext h fun n => by rw [nrm_has, he]
theorem nrm_self {l : List Sp} (h : Normal l) : nrm l = l := nrm_eq h fun _ => rfl
theorem nrm_iff {l : List Sp} : nrm l = l ↔ Normal l := ⟨fun h => h ▸ nrm_normal l, nrm_self⟩
end WageSpan
namespace WageSpan
/-! ### sorting by From -/
/-! ### the normal form -/
/-! ### intersection -/
/-! ### difference -/
/-- The reference's Valid. -/
theorem valid_pairs {l : List Sp} : Normal l ↔ (∀ s ∈ l, properB s = true) ∧ ∀ i s t, l[i]? = some s → l[i + 1]? = some t → s.2 < t.1 := by
 constructor
 ·rintro ⟨h1, h2⟩
  refine ⟨h1, fun i s t hs ht => ?_⟩
  obtain ⟨hi, rfl⟩ := List.getElem?_eq_some_iff.1 hs
  obtain ⟨hj, rfl⟩ := List.getElem?_eq_some_iff.1 ht
  exact List.pairwise_iff_getElem.1 h2 i (i + 1) hi hj (by omega)
 ·rintro ⟨h1, h2⟩
  refine ⟨h1, ?_⟩
  induction l with
  | nil => exact List.Pairwise.nil
  | cons s l ih =>
   have ih' : Normal l := ⟨fun x hx => h1 x (List.mem_cons_of_mem _ hx), ih (fun x hx => h1 x (List.mem_cons_of_mem _ hx)) (fun i x y hx hy => h2 (i + 1) x y (by simpa using hx) (by simpa using hy))⟩
   refine List.pairwise_cons.2 ⟨fun x hx => ?_, ih'.2⟩
   cases l with
   | nil => simp at hx
   | cons t l =>
    have h0 := h2 0 s t rfl rfl
    rcases List.mem_cons.1 hx with rfl | hx
    ·exact h0
    ·have := ih'.head.2 x hx
     have := proper_iff.1 ih'.head.1
     omega
/-! ### sizes -/
/-- How many of n numbers from lo on have a property. -/
def many (p : Int → Bool) : Nat → Int → Int
 | 0, _ => 0
 | k + 1, lo => (if p lo then 1 else 0) + many p k (lo + 1)
/-! ### shifting -/
end WageSpan
namespace WageTop
/-- A zone without its name: the offset at first, the changes (instant, offset). -/
structure Zn where
 base : Int
 ch : List (Int × Int)
def gapB : Option Int → Int → Bool
 | none, _ => true
 | some p, a => decide (2880 ≤ a - p)
/-- The changes from one on: the offset before, the instant of the change before (if any). -/
def chB : Int → Option Int → List (Int × Int) → Bool
 | _, _, [] => true
 | off, prev, (a, o) :: l => decide (0 ≤ a ∧ a ≤ 52595999) && (gapB prev a && (decide (-840 ≤ o ∧ o ≤ 840) && (decide (o - off ≤ 60 ∧ off - o ≤ 60) && chB o (some a) l)))
def znB (z : Zn) : Bool := decide (z.ch.length ≤ 64) && (decide (-840 ≤ z.base ∧ z.base ≤ 840) && chB z.base none z.ch)
/-- The stretches of one offset: from, to, offset. -/
def strG : List (Int × Int) → Int → Int → Int → List (Int × Int × Int)
 | [], off, f, t => if f < t then [(f, t, off)] else []
 | (a, o) :: l, off, f, t => if f < min a t then (f, min a t, off) :: strG l o (min a t) t else strG l o f t
/-- The parts of a stretch of local minutes by days: day, minutes. -/
def piecesG : Nat → Int → Int → List (Int × Int)
 | 0, _, _ => []
 | k + 1, a, e => if a < e then (a / 1440, min ((a / 1440 + 1) * 1440) e - a) :: piecesG k (min ((a / 1440 + 1) * 1440) e) e else []
/-- All parts of a stretch of time. -/
def partsG (z : Zn) (f t : Int) : List (Int × Int) := (strG z.ch z.base f t).flatMap fun (a, e, o) => piecesG (e - a).toNat (a + o) (e + o)
theorem piecesG_more : ∀ (k : Nat) (a e : Int), (e - a).toNat ≤ k → ∀ j, piecesG (k + j) a e = piecesG k a e
 | 0, a, e, h, j => by
  cases j with
  | zero => rfl
  | succ j =>
   unfold piecesG
   rw [if_neg (by omega)]
 | k + 1, a, e, h, j => by
  rw [show k + 1 + j = (k + j) + 1 by omega]
  unfold piecesG
  split
  ·rw [piecesG_more k _ e (by omega) j]
  ·rfl
end WageTop
namespace WageTop
/-- What a plan says of its duties and workers. -/
structure Env where
 nD : Nat
 nW : Nat
 dur : Nat → Int
 wage : Nat → Int
 viol : Nat → List Nat → Bool
/-- A literal. -/
structure Li where
 d : Int
 w : Int
 is : Bool
 deriving DecidableEq
def Li.neg (l : Li) : Li := ⟨l.d, l.w, !l.is⟩
/-- A step: a clause, a rule, the steps it comes from. -/
structure Stp where
 cl : List Li
 rule : Int
 frm : List Int
/-- The duties of a worker in a roster, counted from a number on. -/
def idxF : Nat → List Int → Int → List Nat
 | _, [], _ => []
 | k, x :: r, w => if x = w then k :: idxF (k + 1) r w else idxF (k + 1) r w
def violated (E : Env) (r : List Int) : Bool := (List.range E.nW).any fun w => E.viol w (idxF 0 r w)
def proper (E : Env) (l : Li) : Bool := decide (0 ≤ l.d ∧ l.d < E.nD ∧ 0 ≤ l.w ∧ l.w < E.nW)
def eqSome (d : Int) : Nat → List Li → Bool
 | _, [] => true
 | w, l :: r => decide (l = ⟨d, w, true⟩) && eqSome d (w + 1) r
def someB (E : Env) (s : Stp) : Bool := s.frm.isEmpty && (decide (0 < E.nD) && (decide (s.cl.length = E.nW) && match s.cl with
 | [] => true
 | x :: r => eqSome x.d 0 (x :: r)))
def oneB (s : Stp) : Bool := s.frm.isEmpty && match s.cl with
 | [x, y] => !x.is && (!y.is && (decide (x.d = y.d) && decide (x.w < y.w)))
 | _ => false
def deny : List Int → List Li → Option (List Int)
 | r, [] => some r
 | r, l :: c => if !l.is && decide (r.getD l.d.toNat 0 < 0) then deny (r.set l.d.toNat l.w) c else none
def denied (E : Env) (s : Stp) : Option (List Int) := if s.frm.isEmpty && !s.cl.isEmpty then deny (List.replicate E.nD (-1)) s.cl else none
def badB (E : Env) (s : Stp) : Bool := match denied E s with
 | some r => violated E r
 | none => false
def cheapest (E : Env) : Nat → Int
 | 0 => 0
 | 1 => E.wage 0
 | n + 2 => if E.wage (n + 1) < cheapest E (n + 1) then E.wage (n + 1) else cheapest E (n + 1)
def floorF (E : Env) : Nat → List Int → Int
 | _, [] => 0
 | k, x :: r => (if 0 ≤ x then E.wage x.toNat else cheapest E E.nW) * E.dur k + floorF E (k + 1) r
def costB (E : Env) (bound : Int) (s : Stp) : Bool := match denied E s with
 | some r => decide (bound ≤ floorF E 0 r)
 | none => false
def unitGo (log : List Stp) : List Li → List Int → Bool
 | _, [] => false
 | T, k :: ks => match ((log.map (·.cl)).getD k.toNat []).filter (fun l => !T.contains l.neg) with
  | [] => ks.isEmpty
  | x :: xs => xs.all (fun y => decide (y = x)) && unitGo log (x :: T) ks
def unitB (log : List Stp) (k : Nat) (s : Stp) : Bool := s.frm.all (fun j => decide (0 ≤ j ∧ j < (k : Int))) && unitGo log (s.cl.map Li.neg) s.frm
def followsB (E : Env) (bound : Int) (log : List Stp) (k : Nat) (s : Stp) : Bool :=
 s.cl.all (proper E) && (if s.rule = 1 then someB E s else if s.rule = 2 then oneB s else if s.rule = 3 then badB E s else if s.rule = 4 then costB E bound s else if s.rule = 5 then unitB log k s else false)
def lastNil (log : List Stp) : Bool := match log.getLast? with
 | some s => s.cl.isEmpty
 | none => false
def checkB (E : Env) (bound : Int) (log : List Stp) : Bool := (List.range log.length).all (fun k => match log[k]? with
 | some s => followsB E bound log k s
 | none => true) && lastNil log
/-- A complete roster. -/
def Full (E : Env) (a : List Int) : Prop := a.length = E.nD ∧ ∀ x ∈ a, 0 ≤ x ∧ x < E.nW
def costF (E : Env) : Nat → List Int → Int
 | _, [] => 0
 | k, x :: r => E.wage x.toNat * E.dur k + costF E (k + 1) r
def satL (a : List Int) (l : Li) : Prop := (a.getD l.d.toNat 0 = l.w) ↔ l.is = true
def satC (a : List Int) (c : List Li) : Prop := ∃ l ∈ c, satL a l
theorem sat_neg {a : List Int} {l : Li} : satL a l.neg ↔ ¬ satL a l := by
 unfold satL Li.neg
 cases l.is <;> simp
/-- A plan's laws that the checks lean on. -/
structure Env.Ok (E : Env) : Prop where
 mono : ∀ w ds ds', ds.Sublist ds' → ds'.length ≤ E.nD → (∀ d ∈ ds', d < E.nD) → E.viol w ds = true → E.viol w ds' = true
 dur : ∀ k, k < E.nD → 0 ≤ E.dur k
 wage : ∀ w, w < E.nW → 0 ≤ E.wage w
/-- A partial roster agrees with a complete one. -/
inductive Agree : List Int → List Int → Prop
 | nil : Agree [] []
 | open_ {x y : Int} {r a : List Int} : x < 0 → Agree r a → Agree (x :: r) (y :: a)
 | same {y : Int} {r a : List Int} : Agree r a → Agree (y :: r) (y :: a)
theorem Agree.refl : ∀ a, Agree a a
 | [] => .nil
 | _ :: a => .same (Agree.refl a)
theorem agree_minus : ∀ (a : List Int), Agree (List.replicate a.length (-1)) a
 | [] => .nil
 | _ :: a => .open_ (by decide) (agree_minus a)
theorem Agree.set {r a : List Int} (h : Agree r a) : ∀ {k : Nat} {y : Int}, a[k]? = some y → Agree (r.set k y) a := by
 induction h with
 | nil => intro k y hy; simp at hy
 | open_ hx h ih =>
  intro k y hy
  cases k with
  | zero => simp at hy; subst hy; exact .same h
  | succ k => exact .open_ hx (ih (by simpa using hy))
 | same h ih =>
  intro k y hy
  cases k with
  | zero => simp at hy; subst hy; exact .same h
  | succ k => exact .same (ih (by simpa using hy))
theorem Agree.sub {r a : List Int} (h : Agree r a) : ∀ (k : Nat) {w : Int}, 0 ≤ w → (idxF k r w).Sublist (idxF k a w) := by
 induction h with
 | nil => intro k w _; exact List.Sublist.refl _
 | @open_ x y r a hx h ih =>
  intro k w hw
  unfold idxF
  rw [if_neg (by omega)]
  split
  ·exact (ih (k + 1) hw).cons _
  ·exact ih (k + 1) hw
 | @same y r a h ih =>
  intro k w hw
  unfold idxF
  split
  ·exact (ih (k + 1) hw).cons_cons _
  ·exact ih (k + 1) hw
theorem idxF_len : ∀ (k : Nat) (a : List Int) (w : Int), (idxF k a w).length ≤ a.length
 | _, [], _ => Nat.le_refl _
 | k, x :: a, w => by
  have h := idxF_len (k + 1) a w
  unfold idxF
  split
  ·rw [List.length_cons, List.length_cons]; omega
  ·rw [List.length_cons]; omega
theorem idxF_lt : ∀ (k : Nat) (a : List Int) (w : Int), ∀ d ∈ idxF k a w, d < k + a.length
 | _, [], _, d, h => by cases h
 | k, x :: a, w, d, h => by
  unfold idxF at h
  rw [List.length_cons]
  split at h
  ·rcases List.mem_cons.1 h with h1 | h1
   ·omega
   ·have := idxF_lt (k + 1) a w d h1; omega
  ·have := idxF_lt (k + 1) a w d h; omega
theorem Agree.viol {E : Env} (ok : E.Ok) {r a : List Int} (ha : a.length ≤ E.nD) (h : Agree r a) (hv : violated E r = true) : violated E a = true := by
 unfold violated at hv ⊢
 rw [List.any_eq_true] at hv ⊢
 obtain ⟨w, hw, hv⟩ := hv
 exact ⟨w, hw, ok.mono _ _ _ (h.sub 0 (by omega)) (Nat.le_trans (idxF_len _ _ _) ha) (fun d hd => by have := idxF_lt _ _ _ d hd; omega) hv⟩
end WageTop
namespace WageTop
/-- What the planner carries along. -/
structure St where
 fuel : Int
 found : Bool
 best : List Int
 cost : Int
def lastW (pre : List Int) : Int := pre.getLast?.getD 0
def clean (E : Env) (pre : List Int) : Bool := pre.isEmpty || !E.viol (lastW pre).toNat (idxF 0 pre (lastW pre))
/-- The least wages of the last duties. -/
def leastR (E : Env) : Nat → Int
 | 0 => 0
 | k + 1 => leastR E k + cheapest E E.nW * E.dur (E.nD - (k + 1))
def ext (f : Nat → St → St × Bool) : List Nat → St → St × Bool
 | [], s => (s, true)
 | w :: ws, s => match f w s with
  | (s', true) => ext f ws s'
  | (s', false) => (s', false)
def improve (E : Env) : Nat → List Int → Int → St → St × Bool
 | 0, pre, c, s =>
  if s.fuel - 1 < 0 then ({ s with fuel := s.fuel - 1 }, false)
  else if (s.found && decide (s.cost ≤ c + leastR E 0)) || !clean E pre then ({ s with fuel := s.fuel - 1 }, true)
  else (⟨s.fuel - 1, true, pre, c⟩, true)
 | k + 1, pre, c, s =>
  if s.fuel - 1 < 0 then ({ s with fuel := s.fuel - 1 }, false)
  else if (s.found && decide (s.cost ≤ c + leastR E (k + 1))) || !clean E pre then ({ s with fuel := s.fuel - 1 }, true)
  else ext (fun w s => improve E k (pre ++ [(w : Int)]) (c + E.wage w * E.dur pre.length) s) (List.range E.nW) { s with fuel := s.fuel - 1 }
theorem idxF_append : ∀ (k : Nat) (q r : List Int) (w : Int), idxF k (q ++ r) w = idxF k q w ++ idxF (k + q.length) r w
 | k, [], r, w => by simp [idxF]
 | k, x :: q, r, w => by
  simp only [List.cons_append, idxF]
  rw [idxF_append (k + 1) q r w]
  have : k + 1 + q.length = k + (x :: q).length := by simp; omega
  rw [this]
  split <;> rfl
/-- No prefix has violations. -/
def CleanAll (E : Env) (pre : List Int) : Prop := ∀ q x, q ++ [x] <+: pre → E.viol x.toNat (idxF 0 (q ++ [x]) x) = false
theorem cleanAll_snoc {E : Env} {pre : List Int} {x : Int} : CleanAll E (pre ++ [x]) ↔ CleanAll E pre ∧ E.viol x.toNat (idxF 0 (pre ++ [x]) x) = false := by
 constructor
 ·exact fun h => ⟨fun q y hq => h q y (hq.trans (List.prefix_append _ _)), h pre x (List.prefix_refl _)⟩
 ·rintro ⟨h1, h2⟩ q y hq
  rcases List.prefix_concat_iff.1 hq with h3 | h3
  ·obtain ⟨rfl, h4⟩ := List.append_inj' h3 rfl
   injection h4 with h4
   subst h4
   exact h2
  ·exact h1 q y h3
theorem violated_of {E : Env} (h0 : ∀ w, E.viol w [] = false) {a : List Int} (h : CleanAll E a) : violated E a = false := by
 unfold violated
 rw [List.any_eq_false]
 intro w _
 have key : ∀ (n : Nat) (b : List Int), b.length = n → CleanAll E b → E.viol w (idxF 0 b (w : Int)) = false := by
  intro n
  induction n with
  | zero =>
   intro b hb _
   rw [List.eq_nil_of_length_eq_zero hb]; exact h0 w
  | succ n ih =>
   intro b hb hc
   obtain ⟨c, x, rfl⟩ : ∃ c x, b = c ++ [x] := by
    rcases List.eq_nil_or_concat b with h1 | ⟨c, x, h1⟩
    ·rw [h1] at hb; cases hb
    ·exact ⟨c, x, by simpa using h1⟩
   have h2 := cleanAll_snoc.1 hc
   by_cases hx : x = (w : Int)
   ·subst hx
    simpa using h2.2
   ·have := ih c (by simpa using hb) h2.1
    rw [idxF_append]
    simp only [idxF]
    rw [if_neg hx, List.append_nil]
    exact this
 rw [key a.length a rfl h]
 simp
/-- A complete roster without violations that begins with a prefix. -/
def Work (E : Env) (pre a : List Int) : Prop := Full E a ∧ CleanAll E a ∧ pre <+: a
/-- What the planner holds is sound. -/
def St.Sound (E : Env) (s : St) : Prop := s.found = true → Full E s.best ∧ CleanAll E s.best ∧ costF E 0 s.best = s.cost
/-- What a part of the search has done. -/
structure Done (E : Env) (pre : List Int) (s s' : St) : Prop where
 sound : s'.Sound E
 keep : s.found = true → s'.found = true ∧ s'.cost ≤ s.cost
 least : ∀ a, Work E pre a → s'.found = true ∧ s'.cost ≤ costF E 0 a
end WageTop
namespace WageTop
/-- What the refuter carries along. -/
structure Rs where
 fuel : Int
 log : List Stp
def litsOf : Nat → List Int → List Li
 | _, [] => []
 | k, x :: r => ⟨(k : Int), x, false⟩ :: litsOf (k + 1) r
def appendS (x : Stp) (s : Rs) : Rs × Option Int := if 20000 ≤ s.log.length then (s, none) else (⟨s.fuel, s.log ++ [x]⟩, some (s.log.length : Int))
theorem unitGo_app {log more : List Stp} {k : Nat} (hk : k ≤ log.length) : ∀ {fr : List Int} {T : List Li}, (∀ j ∈ fr, 0 ≤ j ∧ j < (k : Int)) → unitGo (log ++ more) T fr = unitGo log T fr
 | [], _, _ => rfl
 | j :: fr, T, h => by
  have h0 := h j List.mem_cons_self
  have e : ((log ++ more).map (·.cl)).getD j.toNat [] = (log.map (·.cl)).getD j.toNat [] := by
   rw [List.map_append, List.getD_eq_getElem?_getD, List.getElem?_append_left (by simp; omega), ← List.getD_eq_getElem?_getD]
  unfold unitGo
  rw [e]
  split
  ·rfl
  ·rw [unitGo_app hk (fun z hz => h z (List.mem_cons_of_mem _ hz))]
theorem follows_app {E : Env} {bound : Int} {log more : List Stp} {k : Nat} {s : Stp} (hk : k ≤ log.length) (h : followsB E bound log k s = true) : followsB E bound (log ++ more) k s = true := by
 unfold followsB at h ⊢
 simp only [Bool.and_eq_true] at h ⊢
 refine ⟨h.1, ?_⟩
 have h2 := h.2
 split at h2
 ·rename_i hr; rw [if_pos hr]; exact h2
 rename_i r1; rw [if_neg r1]
 split at h2
 ·rename_i hr; rw [if_pos hr]; exact h2
 rename_i r2; rw [if_neg r2]
 split at h2
 ·rename_i hr; rw [if_pos hr]; exact h2
 rename_i r3; rw [if_neg r3]
 split at h2
 ·rename_i hr; rw [if_pos hr]; exact h2
 rename_i r4; rw [if_neg r4]
 split at h2
 ·rename_i hr; rw [if_pos hr]
  unfold unitB at h2 ⊢
  simp only [Bool.and_eq_true] at h2 ⊢
  exact ⟨h2.1, by rw [unitGo_app hk (fun j hj => of_decide_eq_true (List.all_eq_true.1 h2.1 j hj))]; exact h2.2⟩
 ·cases h2
/-- All steps follow. -/
def AllF (E : Env) (bound : Int) (log : List Stp) : Prop := ∀ (k : Nat) (s : Stp), log[k]? = some s → followsB E bound log k s = true
theorem AllF.snoc {E : Env} {bound : Int} {log : List Stp} {x : Stp} (h : AllF E bound log) (hx : followsB E bound log log.length x = true) : AllF E bound (log ++ [x]) := by
 intro k s hs
 have hk := (List.getElem?_eq_some_iff.1 hs).1
 rw [List.length_append, List.length_singleton] at hk
 rcases Nat.lt_or_ge k log.length with h1 | h1
 ·rw [List.getElem?_append_left h1] at hs
  exact follows_app (by omega) (h k s hs)
 ·obtain rfl : k = log.length := by omega
  rw [List.getElem?_append_right (Nat.le_refl _)] at hs
  simp at hs
  subst hs
  exact follows_app (Nat.le_refl _) hx
/-- The steps of a prefix's extensions, in their order. -/
def Froms (log : List Stp) (pre : List Int) : Nat → List Int → Prop
 | _, [] => True
 | w, j :: js => (0 ≤ j ∧ j < (log.length : Int) ∧ ∃ s, log[j.toNat]? = some s ∧ s.cl = litsOf 0 (pre ++ [(w : Int)])) ∧ Froms log pre (w + 1) js
theorem Froms.snoc {log : List Stp} {pre : List Int} : ∀ {js : List Int} {w : Nat} {j : Int}, Froms log pre w js → (0 ≤ j ∧ j < (log.length : Int) ∧ ∃ s, log[j.toNat]? = some s ∧ s.cl = litsOf 0 (pre ++ [((w + js.length : Nat) : Int)])) → Froms log pre w (js ++ [j])
 | [], _, _, _, h => ⟨by simpa using h, trivial⟩
 | i :: js, w, j, h, hj => ⟨h.1, h.2.snoc (by
  have e : w + 1 + js.length = w + (i :: js).length := by simp; omega
  rw [e]; exact hj)⟩
theorem Froms.lt {log : List Stp} {pre : List Int} : ∀ {js : List Int} {w : Nat}, Froms log pre w js → ∀ j ∈ js, 0 ≤ j ∧ j < (log.length : Int)
 | [], _, _, j, hj => by cases hj
 | i :: js, w, h, j, hj => by
  rcases List.mem_cons.1 hj with h1 | h1
  ·subst h1; exact ⟨h.1.1, h.1.2.1⟩
  ·exact h.2.lt j h1
end WageTop
namespace WageTop
theorem appendS_some {x : Stp} {s s' : Rs} {j : Int} (h : appendS x s = (s', some j)) : s'.log = s.log ++ [x] ∧ j = (s.log.length : Int) ∧ s.log.length < 20000 ∧ s'.fuel = s.fuel := by
 unfold appendS at h
 split at h
 ·injection h with _ h; cases h
 ·injection h with h1 h2
  injection h2 with h2
  subst h1
  exact ⟨rfl, h2.symm, by omega, rfl⟩
/-- What a part of the refutation has done. -/
structure RDone (E : Env) (bound : Int) (pre : List Int) (s s' : Rs) (j : Int) : Prop where
 more : ∃ new, s'.log = s.log ++ new
 at_ : j + 1 = (s'.log.length : Int) ∧ 0 ≤ j
 cl : ∃ t, s'.log[j.toNat]? = some t ∧ t.cl = litsOf 0 pre
 all : AllF E bound s'.log
theorem RDone.one {E : Env} {bound : Int} {pre : List Int} {x : Stp} {s s0 s' : Rs} {j : Int} (hm : ∃ new, s0.log = s.log ++ new) (ha : AllF E bound s0.log) (hx : followsB E bound s0.log s0.log.length x = true) (hc : x.cl = litsOf 0 pre) (h : appendS x s0 = (s', some j)) : RDone E bound pre s s' j := by
 obtain ⟨h1, h2, _⟩ := appendS_some h
 obtain ⟨new, hn⟩ := hm
 refine ⟨⟨new ++ [x], by rw [h1, hn, List.append_assoc]⟩, ⟨by rw [h1, h2]; simp, by omega⟩, ⟨x, ?_, hc⟩, by rw [h1]; exact ha.snoc hx⟩
 rw [h1, h2, Int.toNat_natCast, List.getElem?_append_right (Nat.le_refl _)]
 simp
end WageTop
namespace WageTop
/-- What a roster of the planner is. -/
structure Best (E : Env) (l : List Int) (c : Int) (log : List Stp) : Prop where
 full : Full E l
 clean : CleanAll E l
 cost : costF E 0 l = c
 least : ∀ a, Full E a → CleanAll E a → c ≤ costF E 0 a
 check : checkB E c log = true
 tight : checkB E (c + 1) log = false
 len : 1 ≤ log.length ∧ log.length ≤ 20000
end WageTop
