/-
  Payments, answers, standings and desks in plain words.
-/
import Derived.Test.YtaocjobbfcfleaaNameP
namespace WageSet
open WageOrd

structure Pay where
  id : Int
  acc : ByteArray
  c : Int
  d : Int
  deriving DecidableEq
structure Ans where
  q : Int
  id : Int
  k : Int
  c : Int
  d : Int
  deriving DecidableEq
structure Sta where
  p : Pay
  st : Int
  pd : Int
  bk : Int
  deriving DecidableEq
structure Ent where
  id : Int
  de : ByteArray
  cr : ByteArray
  c : Int
  d : Int
  b : Int
  deriving DecidableEq
structure Desk where
  ss : List Sta
  an : List Ans
  deriving DecidableEq

def transit : ByteArray := ⟨#[105, 110, 95, 116, 114, 97, 110, 115, 105, 116]⟩
def bank : ByteArray := ⟨#[97, 116, 95, 98, 97, 110, 107]⟩
def numB (n : Int) : Bool := decide (0 ≤ n) && decide (n ≤ 400000000000)
def dayB (n : Int) : Bool := decide (0 ≤ n) && decide (n ≤ 36524)
def centB (n : Int) : Bool := decide (1 ≤ n) && decide (n ≤ 1000000000000)
def payB (p : Pay) : Bool := numB p.id && nameB p.acc && !decide (p.acc = transit) && !decide (p.acc = bank) && centB p.c && dayB p.d
def ansB (a : Ans) : Bool := numB a.q && numB a.id && dayB a.d && (if a.k = 2 ∨ a.k = 4 then centB a.c else decide (a.k = 1 ∨ a.k = 3) && decide (a.c = 0))

/-- A sum over a list. -/
def sm {α : Type} (f : α → Int) : List α → Int
  | [] => 0
  | a :: l => f a + sm f l
theorem sm_append {α : Type} (f : α → Int) (l k : List α) : sm f (l ++ k) = sm f l + sm f k := by
  induction l with
  | nil => simp [sm]
  | cons a l ih => simp only [List.cons_append, sm, ih]; omega
theorem sm_snoc {α : Type} (f : α → Int) (l : List α) (a : α) : sm f (l ++ [a]) = sm f l + f a := by rw [sm_append]; simp [sm]
theorem sm_perm {α : Type} (f : α → Int) {l k : List α} (h : l.Perm k) : sm f l = sm f k := by
  induction h with
  | nil => rfl
  | cons x _ ih => simp only [sm, ih]
  | swap x y l => simp only [sm]; omega
  | trans _ _ h1 h2 => rw [h1, h2]
theorem sm_nonneg {α : Type} {f : α → Int} : ∀ {l : List α}, (∀ a ∈ l, 0 ≤ f a) → 0 ≤ sm f l
  | [], _ => Int.le_refl _
  | a :: l, h => by
    have h1 := h a List.mem_cons_self
    have h2 := sm_nonneg (f := f) fun b hb => h b (List.mem_cons_of_mem a hb)
    simp only [sm]; omega
theorem sm_le {α : Type} {f : α → Int} {m : Int} : ∀ {l : List α}, (∀ a ∈ l, f a ≤ m) → sm f l ≤ m * l.length
  | [], _ => by simp [sm]
  | a :: l, h => by
    have h1 := h a List.mem_cons_self
    have h2 := sm_le (f := f) fun b hb => h b (List.mem_cons_of_mem a hb)
    simp only [sm, List.length_cons, Int.natCast_add, Int.mul_add]
    omega
theorem sm_congr {α : Type} {f g : α → Int} : ∀ {l : List α}, (∀ a ∈ l, f a = g a) → sm f l = sm g l
  | [], _ => rfl
  | a :: l, h => by
    simp only [sm]
    rw [h a List.mem_cons_self, sm_congr fun b hb => h b (List.mem_cons_of_mem a hb)]

def pdF (id : Int) (a : Ans) : Int := if a.id = id ∧ a.k = 2 then a.c else 0
def bkF (id : Int) (a : Ans) : Int := if a.id = id ∧ a.k = 4 then a.c else 0
def tkF (id : Int) (a : Ans) : Int := if a.id = id ∧ a.k = 1 then 1 else 0
def rfF (id : Int) (a : Ans) : Int := if a.id = id ∧ a.k = 3 then 1 else 0
structure Tal where
  pd : Int
  bk : Int
  tk : Int
  rf : Int
  deriving DecidableEq
def tal (id : Int) (l : List Ans) : Tal := ⟨sm (pdF id) l, sm (bkF id) l, sm (tkF id) l, sm (rfF id) l⟩
/-- What an answer does to a tally. -/
def talA (t : Tal) (a : Ans) : Tal := ⟨t.pd + (if a.k = 2 then a.c else 0), t.bk + (if a.k = 4 then a.c else 0), t.tk + (if a.k = 1 then 1 else 0), t.rf + (if a.k = 3 then 1 else 0)⟩
theorem tal_nil (id : Int) : tal id [] = ⟨0, 0, 0, 0⟩ := rfl
theorem tal_in {id : Int} {l : List Ans} {a : Ans} (h : a.id = id) : tal id (l ++ [a]) = talA (tal id l) a := by
  unfold tal talA
  simp [sm_snoc, pdF, bkF, tkF, rfF, h]
theorem tal_out {id : Int} {l : List Ans} {a : Ans} (h : a.id ≠ id) : tal id (l ++ [a]) = tal id l := by
  unfold tal
  simp [sm_snoc, pdF, bkF, tkF, rfF, h]
theorem tal_perm (id : Int) {l k : List Ans} (h : l.Perm k) : tal id l = tal id k := by
  unfold tal; simp only [sm_perm _ h]

def stOf (t : Tal) : Int := if 0 < t.rf then 4 else if 0 < t.bk then 5 else if 0 < t.pd then 3 else if 0 < t.tk then 2 else 1
def staS (p : Pay) (t : Tal) : Sta := ⟨p, stOf t, t.pd, t.bk⟩
def okT (p : Pay) (t : Tal) : Bool := !(decide (1 < t.rf) || (decide (0 < t.rf) && decide (0 < t.pd))) && decide (t.bk ≤ t.pd) && decide (t.pd ≤ p.c)

/-- The payment with an ID. -/
def findP (ps : List Pay) (id : Int) : Option Pay := ps.find? fun p => p.id == id
def psB (ps : List Pay) : Nat → Bool
  | 0 => true
  | i + 1 => psB ps i && match ps[i]? with
    | some p => payB p && !((ps.take i).any fun x => x.id == p.id)
    | none => true
def prevQ (zs : List Ans) (i : Nat) (a : Ans) : Bool :=
  match i with
  | 0 => true
  | j + 1 => match zs[j]? with
    | some x => decide (x.q < a.q)
    | none => true
def dayOk (ps : List Pay) (a : Ans) : Bool := match findP ps a.id with
  | some p => decide (p.d ≤ a.d)
  | none => false
def asB (ps : List Pay) (zs : List Ans) : Nat → Bool
  | 0 => true
  | i + 1 => asB ps zs i && match zs[i]? with
    | some a => ansB a && dayOk ps a && prevQ zs i a
    | none => true
def stB (ps : List Pay) (zs : List Ans) : Nat → Bool
  | 0 => true
  | i + 1 => stB ps zs i && match ps[i]? with
    | some p => okT p (tal p.id zs)
    | none => true
def standOk (ps : List Pay) (zs : List Ans) : Bool := psB ps ps.length && asB ps zs zs.length && stB ps zs ps.length
def standL (ps : List Pay) (zs : List Ans) : List Sta := ps.map fun p => staS p (tal p.id zs)
def paysOf (d : Desk) : List Pay := d.ss.map (·.p)
def validB (d : Desk) : Bool := decide (d.ss.length ≤ 400) && decide (d.an.length ≤ 2000) && standOk (paysOf d) d.an && decide (standL (paysOf d) d.an = d.ss)

theorem psB_le {ps : List Pay} : ∀ {k : Nat}, psB ps k = true → ∀ {i : Nat}, i ≤ k → psB ps i = true
  | 0, h, i, hi => by obtain rfl : i = 0 := by omega
                      exact h
  | k + 1, h, i, hi => by
    by_cases e : i = k + 1
    · subst e; exact h
    · simp only [psB, Bool.and_eq_true] at h
      exact psB_le h.1 (by omega)
theorem asB_le {ps : List Pay} {zs : List Ans} : ∀ {k : Nat}, asB ps zs k = true → ∀ {i : Nat}, i ≤ k → asB ps zs i = true
  | 0, h, i, hi => by obtain rfl : i = 0 := by omega
                      exact h
  | k + 1, h, i, hi => by
    by_cases e : i = k + 1
    · subst e; exact h
    · simp only [asB, Bool.and_eq_true] at h
      exact asB_le h.1 (by omega)
theorem stB_le {ps : List Pay} {zs : List Ans} : ∀ {k : Nat}, stB ps zs k = true → ∀ {i : Nat}, i ≤ k → stB ps zs i = true
  | 0, h, i, hi => by obtain rfl : i = 0 := by omega
                      exact h
  | k + 1, h, i, hi => by
    by_cases e : i = k + 1
    · subst e; exact h
    · simp only [stB, Bool.and_eq_true] at h
      exact stB_le h.1 (by omega)
theorem psB_at {ps : List Pay} {k : Nat} (h : psB ps k = true) {i : Nat} {p : Pay} (hi : i < k) (hp : ps[i]? = some p) : payB p = true ∧ ((ps.take i).any fun x => x.id == p.id) = false := by
  have := psB_le h (show i + 1 ≤ k by omega)
  simp only [psB, Bool.and_eq_true, hp, Bool.not_eq_true'] at this
  exact this.2
theorem asB_at {ps : List Pay} {zs : List Ans} {k : Nat} (h : asB ps zs k = true) {i : Nat} {a : Ans} (hi : i < k) (ha : zs[i]? = some a) : ansB a = true ∧ dayOk ps a = true ∧ prevQ zs i a = true := by
  have := asB_le h (show i + 1 ≤ k by omega)
  simp only [asB, Bool.and_eq_true, ha] at this
  exact ⟨this.2.1.1, this.2.1.2, this.2.2⟩
theorem stB_at {ps : List Pay} {zs : List Ans} {k : Nat} (h : stB ps zs k = true) {i : Nat} {p : Pay} (hi : i < k) (hp : ps[i]? = some p) : okT p (tal p.id zs) = true := by
  have := stB_le h (show i + 1 ≤ k by omega)
  simp only [stB, Bool.and_eq_true, hp] at this
  exact this.2
theorem psB_succ {ps : List Pay} {i : Nat} {p : Pay} (h : psB ps i = true) (hp : ps[i]? = some p) (h1 : payB p = true) (h2 : ((ps.take i).any fun x => x.id == p.id) = false) : psB ps (i + 1) = true := by
  simp [psB, h, hp, h1, h2]
theorem psB_bad {ps : List Pay} {i n : Nat} {p : Pay} (hi : i < n) (hp : ps[i]? = some p) (h : payB p = false ∨ ((ps.take i).any fun x => x.id == p.id) = true) : psB ps n = false := by
  rw [Bool.eq_false_iff]
  intro hh
  obtain ⟨h1, h2⟩ := psB_at hh hi hp
  rcases h with h | h
  · rw [h1] at h; cases h
  · rw [h2] at h; cases h
theorem asB_succ {ps : List Pay} {zs : List Ans} {i : Nat} {a : Ans} (h : asB ps zs i = true) (ha : zs[i]? = some a) (h1 : ansB a = true) (h2 : dayOk ps a = true) (h3 : prevQ zs i a = true) : asB ps zs (i + 1) = true := by
  simp [asB, h, ha, h1, h2, h3]
theorem asB_bad {ps : List Pay} {zs : List Ans} {i n : Nat} {a : Ans} (hi : i < n) (ha : zs[i]? = some a) (h : ansB a = false ∨ dayOk ps a = false ∨ prevQ zs i a = false) : asB ps zs n = false := by
  rw [Bool.eq_false_iff]
  intro hh
  obtain ⟨h1, h2, h3⟩ := asB_at hh hi ha
  rcases h with h | h | h
  · rw [h1] at h; cases h
  · rw [h2] at h; cases h
  · rw [h3] at h; cases h
theorem stB_succ {ps : List Pay} {zs : List Ans} {i : Nat} {p : Pay} (h : stB ps zs i = true) (hp : ps[i]? = some p) (h1 : okT p (tal p.id zs) = true) : stB ps zs (i + 1) = true := by
  simp [stB, h, hp, h1]
theorem stB_bad {ps : List Pay} {zs : List Ans} {i n : Nat} {p : Pay} (hi : i < n) (hp : ps[i]? = some p) (h : okT p (tal p.id zs) = false) : stB ps zs n = false := by
  rw [Bool.eq_false_iff]
  intro hh
  rw [stB_at hh hi hp] at h; cases h
end WageSet
