/-
  Open orders, in plain words.
-/
import Derived.Test.YtjpnodmcglcihaaRecP
namespace WageOrd
open WageMap

/-- Served before. -/
def ltO (a b : Ord) : Prop := a.r < b.r ∨ (a.r = b.r ∧ a.n < b.n)
def ltB (a b : Ord) : Bool := decide (a.r < b.r) || (decide (a.r = b.r) && decide (a.n < b.n))
theorem ltB_iff {a b : Ord} : ltB a b = true ↔ ltO a b := by unfold ltB ltO; simp
theorem ltO.trans {a b c : Ord} (h : ltO a b) (k : ltO b c) : ltO a c := by unfold ltO at *; omega
theorem ltO.irrefl {a : Ord} : ¬ ltO a a := by unfold ltO; omega
theorem ltO.asymm {a b : Ord} (h : ltO a b) : ¬ ltO b a := by unfold ltO at *; omega
theorem ltO.total {a b : Ord} (h : a.n ≠ b.n) : ltO a b ∨ ltO b a := by unfold ltO; omega
def SortedO (l : List Ord) : Prop := l.Pairwise ltO

theorem sorted_ext : ∀ {l k : List Ord}, SortedO l → SortedO k → (∀ x, x ∈ l ↔ x ∈ k) → l = k
  | [], [], _, _, _ => rfl
  | [], y :: k, _, _, h => absurd ((h y).2 List.mem_cons_self) (by simp)
  | x :: l, [], _, _, h => absurd ((h x).1 List.mem_cons_self) (by simp)
  | x :: l, y :: k, hl, hk, h => by
    obtain ⟨hl1, hl2⟩ := List.pairwise_cons.1 hl
    obtain ⟨hk1, hk2⟩ := List.pairwise_cons.1 hk
    have hxy : x = y := by
      rcases List.mem_cons.1 ((h x).1 List.mem_cons_self) with e | hx
      · exact e
      · rcases List.mem_cons.1 ((h y).2 List.mem_cons_self) with e | hy
        · exact e.symm
        · exact absurd (hl1 y hy) (hk1 x hx).asymm
    subst hxy
    rw [sorted_ext hl2 hk2 fun z => ?_]
    constructor
    · intro hz
      rcases List.mem_cons.1 ((h z).1 (List.mem_cons_of_mem _ hz)) with e | hz'
      · subst e; exact absurd (hl1 z hz) ltO.irrefl
      · exact hz'
    · intro hz
      rcases List.mem_cons.1 ((h z).2 (List.mem_cons_of_mem _ hz)) with e | hz'
      · subst e; exact absurd (hk1 z hz) ltO.irrefl
      · exact hz'
/-- An order comes to its place. -/
def insO (o : Ord) : List Ord → List Ord
  | [] => [o]
  | x :: l => if ltB x o then x :: insO o l else o :: x :: l
def sortO : List Ord → List Ord
  | [] => []
  | x :: l => insO x (sortO l)
theorem insO_perm (o : Ord) : ∀ l, (insO o l).Perm (o :: l)
  | [] => List.Perm.refl _
  | x :: l => by
    unfold insO
    split
    · exact ((insO_perm o l).cons x).trans (List.Perm.swap o x l)
    · exact List.Perm.refl _
theorem sortO_perm : ∀ l, (sortO l).Perm l
  | [] => List.Perm.refl _
  | x :: l => (insO_perm x (sortO l)).trans ((sortO_perm l).cons x)
theorem insO_sorted {o : Ord} : ∀ {l : List Ord}, SortedO l → (∀ x ∈ l, x.n ≠ o.n) → SortedO (insO o l)
  | [], _, _ => by simp [insO, SortedO]
  | x :: l, h, hn => by
    obtain ⟨h1, h2⟩ := List.pairwise_cons.1 h
    unfold insO
    split
    · rename_i hx
      refine List.pairwise_cons.2 ⟨fun y hy => ?_, insO_sorted h2 fun y hy => hn y (List.mem_cons_of_mem _ hy)⟩
      rcases List.mem_cons.1 ((insO_perm o l).mem_iff.1 hy) with rfl | hy
      · exact ltB_iff.1 hx
      · exact h1 y hy
    · rename_i hx
      have hox : ltO o x := by
        rcases ltO.total (hn x List.mem_cons_self) with h' | h'
        · exact absurd (ltB_iff.2 h') hx
        · exact h'
      refine List.pairwise_cons.2 ⟨fun y hy => ?_, h⟩
      rcases List.mem_cons.1 hy with rfl | hy
      · exact hox
      · exact hox.trans (h1 y hy)
theorem sortO_sorted : ∀ {l : List Ord}, (l.map (·.n)).Nodup → SortedO (sortO l)
  | [], _ => List.Pairwise.nil
  | x :: l, h => by
    simp only [List.map_cons, List.nodup_cons] at h
    refine insO_sorted (sortO_sorted h.2) fun y hy e => ?_
    exact h.1 (e ▸ List.mem_map.2 ⟨y, (sortO_perm l).mem_iff.1 hy, rfl⟩)

/-- The map of the person's known orders after some rounds. -/
def cM (l : List Ord) (p : ByteArray) (kn : Int) : Nat → List (Int × Ord)
  | 0 => []
  | i + 1 => match l[i]? with
    | some o => if decide (o.p = p) && decide (o.k ≤ kn) then alPut o.n o (cM l p kn i) else cM l p kn i
    | none => cM l p kn i
def opB (month : Int) (o : Ord) : Bool := decide (o.f ≤ month) && (o.m != 0)
def openL (l : List Ord) (p : ByteArray) (month kn : Int) : List Ord :=
  if validB l then sortO (((cM l p kn l.length).map Prod.snd).filter (opB month)) else []

theorem cM_keys (l : List Ord) (p : ByteArray) (kn : Int) : ∀ i, Keys (cM l p kn i) ∧ ∀ q ∈ cM l p kn i, q.1 = q.2.n ∧ q.2 ∈ l.take i ∧ q.2.p = p ∧ q.2.k ≤ kn
  | 0 => ⟨Keys.nil, by simp [cM]⟩
  | i + 1 => by
    obtain ⟨h1, h2⟩ := cM_keys l p kn i
    have h3 : ∀ q ∈ cM l p kn i, q.1 = q.2.n ∧ q.2 ∈ l.take (i + 1) ∧ q.2.p = p ∧ q.2.k ≤ kn := fun q hq => by
      obtain ⟨a, b, c⟩ := h2 q hq
      exact ⟨a, by rw [List.take_add_one]; exact List.mem_append_left _ b, c⟩
    unfold cM
    cases ho : l[i]? with
    | none => exact ⟨h1, h3⟩
    | some o =>
      simp only
      split
      · rename_i hc
        simp only [Bool.and_eq_true, decide_eq_true_eq] at hc
        refine ⟨h1.put _ _, fun q hq => ?_⟩
        rcases alPut_mem hq with rfl | hq
        · exact ⟨rfl, by rw [List.take_add_one, ho]; simp, hc.1, hc.2⟩
        · exact h3 q hq
      · exact ⟨h1, h3⟩
theorem cM_len (l : List Ord) (p : ByteArray) (kn : Int) : ∀ i, (cM l p kn i).length ≤ i
  | 0 => Nat.le_refl _
  | i + 1 => by
    have := cM_len l p kn i
    unfold cM
    cases l[i]? with
    | none => simp only; omega
    | some o =>
      simp only
      split
      · have h2 := alPut_length o.n o (cM l p kn i); omega
      · omega
theorem snd_nodup {m : List (Int × Ord)} (h : Keys m) (hn : ∀ q ∈ m, q.1 = q.2.n) : ((m.map Prod.snd).map (·.n)).Nodup := by
  have : (m.map Prod.snd).map (·.n) = m.map Prod.fst := by
    rw [List.map_map]
    exact List.map_congr_left fun q hq => (hn q hq).symm
  rw [this]; exact h
theorem opened_nodup {l : List Ord} {p : ByteArray} {kn : Int} (i : Nat) (f : Ord → Bool) : ((((cM l p kn i).map Prod.snd).filter f).map (·.n)).Nodup :=
  (snd_nodup (cM_keys l p kn i).1 fun q hq => ((cM_keys l p kn i).2 q hq).1).sublist (List.Sublist.map _ List.filter_sublist)
theorem openL_sorted (l : List Ord) (p : ByteArray) (month kn : Int) : SortedO (openL l p month kn) := by
  unfold openL
  split
  · exact sortO_sorted (opened_nodup _ _)
  · exact List.Pairwise.nil
theorem mem_openL {l : List Ord} {p : ByteArray} {month kn : Int} {x : Ord} (hv : validB l = true) : x ∈ openL l p month kn ↔ alFind x.n (cM l p kn l.length) = some x ∧ opB month x = true := by
  unfold openL
  rw [if_pos hv, (sortO_perm _).mem_iff, List.mem_filter]
  refine and_congr_left fun _ => ?_
  obtain ⟨hk, hm⟩ := cM_keys l p kn l.length
  constructor
  · intro h
    obtain ⟨q, hq, rfl⟩ := List.mem_map.1 h
    exact mem_alFind hk (by rw [← (hm q hq).1]; exact hq)
  · intro h
    exact List.mem_map.2 ⟨_, alFind_mem h, rfl⟩
theorem openL_not {l : List Ord} {p : ByteArray} {month kn : Int} (hv : validB l = false) : openL l p month kn = [] := by unfold openL; rw [hv]; rfl
/-- What the sort returns is the list of open orders. -/
theorem open_eq {l : List Ord} {p : ByteArray} {month kn : Int} {E d : List Ord} (hv : validB l = true) (hE : E.Perm (((cM l p kn l.length).map Prod.snd).filter (opB month))) (hd : d.Perm E) (hs : d.Pairwise fun a b => ¬ ltO b a) : d = openL l p month kn := by
  have hp := hd.trans hE
  have hnd : (d.map (·.n)).Nodup := (hp.map _).nodup_iff.2 (opened_nodup _ _)
  refine sorted_ext ?_ (openL_sorted _ _ _ _) fun x => ?_
  · unfold SortedO
    have h2 : d.Pairwise fun a b => a.n ≠ b.n := by
      have := List.pairwise_map.1 hnd
      exact this
    exact (hs.and h2).imp fun ⟨h3, h4⟩ => (ltO.total h4).resolve_right h3
  · unfold openL
    rw [if_pos hv, (sortO_perm _).mem_iff]
    exact hp.mem_iff
theorem openL_len (l : List Ord) (p : ByteArray) (month kn : Int) : (openL l p month kn).length ≤ l.length := by
  unfold openL
  split
  · rw [(sortO_perm _).length_eq]
    refine Nat.le_trans (List.length_filter_le _ _) ?_
    rw [List.length_map]
    exact cM_len _ _ _ _
  · simp
theorem openL_mem {l : List Ord} {p : ByteArray} {month kn : Int} {x : Ord} (h : x ∈ openL l p month kn) : x ∈ l ∧ x.p = p ∧ x.k ≤ kn ∧ x.f ≤ month ∧ x.m ≠ 0 := by
  cases hv : validB l with
  | false => rw [openL_not hv] at h; simp at h
  | true =>
    obtain ⟨h1, h2⟩ := (mem_openL hv).1 h
    obtain ⟨a, b, c, d⟩ := (cM_keys l p kn l.length).2 _ (alFind_mem h1)
    unfold opB at h2
    simp only [Bool.and_eq_true, decide_eq_true_eq, bne_iff_ne] at h2
    exact ⟨by rw [List.take_length] at b; exact b, c, d, h2.1, h2.2⟩
end WageOrd
