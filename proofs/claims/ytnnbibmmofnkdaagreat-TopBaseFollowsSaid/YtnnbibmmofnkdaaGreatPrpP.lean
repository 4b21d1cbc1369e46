/-
 Propagations and base steps: what holds of them, without the program.
-/
import Derived.Test.YtnnbibmmofnkdaaGreatPrpC
namespace Go.Proofs.YtnnbibmmofnkdaaGreat
open WageTop
/-- The clauses without what stands twice, and the places of the literals. -/
structure Sta (dl : List (List Li)) (pl : Li → List Nat) : Prop where
 nd : ∀ i, (dl.getD i []).Nodup
 at_ : ∀ l i, i ∈ pl l ↔ i < dl.length ∧ l ∈ dl.getD i []
 pnd : ∀ l, (pl l).Nodup
def opn (T c : List Li) : Nat := (c.filter (fun l => !T.contains l.neg)).length
/-- What holds of a propagation; ex: clauses that need not stand among the units. -/
structure PInv (dl : List (List Li)) (ex : Nat → Prop) (s : Pg) : Prop where
 ol : s.op.length = dl.length
 sl : s.sa.length = dl.length
 op : ∀ i, i < dl.length → s.op.getD i 0 = (opn s.T (dl.getD i []) : Int)
 sa : ∀ i, i < dl.length → (s.sa.getD i false = true ↔ ∃ l ∈ dl.getD i [], l ∈ s.T)
 U : ∀ x ∈ s.U, ∃ i : Nat, x = (i : Int) ∧ i < dl.length ∧ s.op.getD i 0 ≤ 1
 f1 : 0 ≤ s.fa → ∃ i : Nat, s.fa = (i : Int) ∧ i < dl.length ∧ s.op.getD i 0 = 0
 f0 : s.fa < 0 → ∀ i, i < dl.length → s.op.getD i 0 ≠ 0
 u1 : ∀ i, i < dl.length → ¬ ex i → s.op.getD i 0 = 1 → s.sa.getD i false = false → (i : Int) ∈ s.U
def meas (s : Pg) : Nat := s.U.length + s.op.countP (fun x => decide (2 ≤ x))
theorem getD_set {α : Type} (xs : List α) (i j : Nat) (x d : α) : (xs.set i x).getD j d = if i = j ∧ j < xs.length then x else xs.getD j d := by
 rw [List.getD_eq_getElem?_getD, List.getElem?_set, List.getD_eq_getElem?_getD]
 by_cases h : i = j
 ·subst h
  by_cases h2 : i < xs.length
  ·rw [if_pos rfl, if_pos h2, if_pos ⟨rfl, h2⟩]; rfl
  ·rw [if_pos rfl, if_neg h2, if_neg (fun h => h2 h.2), List.getElem?_eq_none (by omega)]
 ·rw [if_neg h, if_neg (fun h2 => h h2.1)]
theorem exam_meas {s s' : Pg} {i : Nat} (hi : i < s.op.length) (h : Pg.exam { s with op := s.op.set i (s.op.getD i 0 - 1) } i s') : meas s' ≤ meas s := by
 obtain ⟨h1, h2, h3, h4, h5⟩ := h
 have hc : (s.op.set i (s.op.getD i 0 - 1)).countP (fun x => decide (2 ≤ x)) = _ := List.countP_set hi
 have hp : (if decide (2 ≤ s.op[i]) = true then 1 else 0) ≤ s.op.countP (fun x => decide (2 ≤ x)) := by
  by_cases h : decide (2 ≤ s.op[i]) = true
  ·rw [if_pos h]
   exact List.countP_pos_iff.2 ⟨_, List.getElem_mem hi, h⟩
  ·rw [if_neg h]; exact Nat.zero_le _
 have hg : s.op.getD i 0 = s.op[i] := by rw [List.getD_eq_getElem?_getD, List.getElem?_eq_getElem hi]; rfl
 simp only [getD_set, hi, and_self, if_true] at h5
 unfold meas
 rw [h3, hc]
 rw [hg] at h5 ⊢
 by_cases e0 : s.op[i] - 1 = 0
 ·rw [if_pos e0] at h5
  rw [h5.2]
  simp only [decide_eq_true_eq] at hp ⊢
  split at hp <;> split <;> split <;> omega
 ·rw [if_neg e0] at h5
  by_cases e1 : s.op[i] - 1 = 1
  ·rw [if_pos e1] at h5
   have hl := h5.2.length_eq
   rw [List.length_append, List.length_singleton] at hl
   rw [hl]
   simp only [decide_eq_true_eq] at hp ⊢
   rw [if_pos (by omega)] at hp ⊢
   rw [if_neg (by omega)]
   omega
  ·rw [if_neg e1] at h5
   rw [h5.2]
   simp only [decide_eq_true_eq] at hp ⊢
   split at hp <;> split <;> split <;> omega
theorem decR_len {s s' : Pg} {r : List Nat} (h : DecR s r s') : s'.op.length = s.op.length := by
 induction h with
 | nil => rfl
 | snoc h1 h2 ih => rw [h2.2.2.1, List.length_set, ih]
theorem decR_meas {s s' : Pg} {r : List Nat} (h : DecR s r s') : (∀ i ∈ r, i < s.op.length) → meas s' ≤ meas s := by
 induction h with
 | nil => intro _; exact Nat.le_refl _
 | @snoc s1 s2 r i h1 h2 ih =>
  intro hr
  refine Nat.le_trans (exam_meas ?_ h2) (ih fun j hj => hr j (List.mem_append_left _ hj))
  rw [decR_len h1]
  exact hr i (List.mem_append_right _ (List.mem_singleton.2 rfl))
structure DecS (s : Pg) (r : List Nat) (s' : Pg) : Prop where
 lst : s'.lst = s.lst
 T : s'.T = s.T
 sa : s'.sa = s.sa
 op : ∀ i, s'.op.getD i 0 = s.op.getD i 0 - if i ∈ r then 1 else 0
 f1 : 0 ≤ s'.fa → s'.fa = s.fa ∨ ∃ i ∈ r, s'.fa = ((i : Nat) : Int) ∧ s'.op.getD i 0 = 0
 f0 : s'.fa < 0 → s.fa < 0 ∧ ∀ i ∈ r, s'.op.getD i 0 ≠ 0
 U1 : ∀ x ∈ s'.U, x ∈ s.U ∨ ∃ i ∈ r, x = ((i : Nat) : Int) ∧ s'.op.getD i 0 = 1
 U2 : ∀ x ∈ s.U, x ∈ s'.U
 U3 : ∀ i ∈ r, s'.op.getD i 0 = 1 → ((i : Nat) : Int) ∈ s'.U
theorem decR_spec {s s' : Pg} {r : List Nat} (h : DecR s r s') : r.Nodup → (∀ i ∈ r, i < s.op.length) → DecS s r s' := by
 induction h with
 | nil =>
  intro _ _
  exact ⟨rfl, rfl, rfl, fun i => by simp, fun _ => .inl rfl, fun h => ⟨h, fun i hi => by cases hi⟩, fun x hx => .inl hx, fun x hx => hx, fun i hi => by cases hi⟩
 | @snoc s1 s2 r i h1 h2 ih =>
  intro hnd hr
  have hi : i < s.op.length := hr i (List.mem_append_right _ (List.mem_singleton.2 rfl))
  have hi1 : i < s1.op.length := by rw [decR_len h1]; exact hi
  have hnr : i ∉ r := fun hm => (List.nodup_append.1 hnd).2.2 i hm i (List.mem_singleton.2 rfl) rfl
  obtain ⟨a1, a2, a3, a4, a5, a6, a7, a8, a9⟩ := ih (List.nodup_append.1 hnd).1 (fun j hj => hr j (List.mem_append_left _ hj))
  obtain ⟨b1, b2, b3, b4, b5⟩ := h2
  simp only at b1 b2 b3 b4
  have hop : ∀ j, s2.op.getD j 0 = s1.op.getD j 0 - if j = i then 1 else 0 := fun j => by
   rw [b3, getD_set]
   by_cases e : i = j
   ·subst e; rw [if_pos ⟨rfl, hi1⟩, if_pos rfl]
   ·rw [if_neg (fun h => e h.1), if_neg (fun h => e h.symm)]; omega
  have hne : ∀ j ∈ r, s2.op.getD j 0 = s1.op.getD j 0 := fun j hj => by
   rw [hop, if_neg (fun (e : j = i) => hnr (e ▸ hj))]; omega
  simp only [getD_set, hi1, and_self, if_true] at b5
  have hoi : s2.op.getD i 0 = s1.op.getD i 0 - 1 := by rw [hop, if_pos rfl]
  rw [← hoi] at b5
  refine ⟨b1.trans a1, b2.trans a2, b4.trans a3, fun j => ?_, ?_, ?_, ?_, ?_, ?_⟩
  ·rw [hop, a4]
   by_cases e : j = i
   ·subst e
    rw [if_neg hnr, if_pos rfl, if_pos (List.mem_append_right _ (List.mem_singleton.2 rfl))]; omega
   ·rw [if_neg e]
    by_cases e2 : j ∈ r
    ·rw [if_pos e2, if_pos (List.mem_append_left _ e2)]; omega
    ·rw [if_neg e2, if_neg (by rw [List.mem_append, List.mem_singleton]; rintro (h | h); exact e2 h; exact e h)]; omega
  all_goals (
   by_cases c0 : s2.op.getD i 0 = 0)
  ·rw [if_pos c0] at b5
   intro hf
   by_cases c : s1.fa < 0 ∨ (i : Int) < s1.fa
   ·exact .inr ⟨i, List.mem_append_right _ (List.mem_singleton.2 rfl), by rw [b5.1]; exact if_pos c, c0⟩
   ·have hfa : s2.fa = s1.fa := by rw [b5.1]; exact if_neg c
    rw [hfa] at hf ⊢
    rcases a5 hf with e | ⟨j, hj, e1, e2⟩
    ·exact .inl e
    ·exact .inr ⟨j, List.mem_append_left _ hj, e1, by rw [hne j hj]; exact e2⟩
  ·rw [if_neg c0] at b5
   have hfa : s2.fa = s1.fa := by by_cases c1 : s2.op.getD i 0 = 1 <;> simp only [c1, if_true, if_false] at b5 <;> exact b5.1
   rw [hfa]
   intro hf
   rcases a5 hf with e | ⟨j, hj, e1, e2⟩
   ·exact .inl e
   ·exact .inr ⟨j, List.mem_append_left _ hj, e1, by rw [hne j hj]; exact e2⟩
  ·rw [if_pos c0] at b5
   intro hf
   exfalso
   rw [b5.1] at hf
   split at hf <;> omega
  ·rw [if_neg c0] at b5
   have hfa : s2.fa = s1.fa := by by_cases c1 : s2.op.getD i 0 = 1 <;> simp only [c1, if_true, if_false] at b5 <;> exact b5.1
   rw [hfa]
   intro hf
   obtain ⟨e1, e2⟩ := a6 hf
   refine ⟨e1, fun j hj => ?_⟩
   rcases List.mem_append.1 hj with h | h
   ·rw [hne j h]; exact e2 j h
   ·obtain rfl := List.mem_singleton.1 h
    exact c0
  ·rw [if_pos c0] at b5
   rw [b5.2]
   intro x hx
   rcases a7 x hx with e | ⟨j, hj, e1, e2⟩
   ·exact .inl e
   ·exact .inr ⟨j, List.mem_append_left _ hj, e1, by rw [hne j hj]; exact e2⟩
  ·rw [if_neg c0] at b5
   intro x hx
   have key : x ∈ s1.U ∨ (x = (i : Int) ∧ s2.op.getD i 0 = 1) := by
    by_cases c1 : s2.op.getD i 0 = 1
    ·rw [if_pos c1] at b5
     rcases List.mem_append.1 (b5.2.mem_iff.1 hx) with h | h
     ·exact .inl h
     ·exact .inr ⟨List.mem_singleton.1 h, c1⟩
    ·rw [if_neg c1] at b5
     exact .inl (by rw [← b5.2]; exact hx)
   rcases key with h | ⟨h, c1⟩
   ·rcases a7 x h with e | ⟨j, hj, e1, e2⟩
    ·exact .inl e
    ·exact .inr ⟨j, List.mem_append_left _ hj, e1, by rw [hne j hj]; exact e2⟩
   ·exact .inr ⟨i, List.mem_append_right _ (List.mem_singleton.2 rfl), h, c1⟩
  ·rw [if_pos c0] at b5
   rw [b5.2]
   exact a8
  ·rw [if_neg c0] at b5
   intro x hx
   have h := a8 x hx
   by_cases c1 : s2.op.getD i 0 = 1
   ·rw [if_pos c1] at b5
    exact b5.2.mem_iff.2 (List.mem_append_left _ h)
   ·rw [if_neg c1] at b5
    rw [b5.2]; exact h
  ·rw [if_pos c0] at b5
   rw [b5.2]
   intro j hj hj1
   rcases List.mem_append.1 hj with h | h
   ·exact a9 j h (by rw [← hne j h]; exact hj1)
   ·obtain rfl := List.mem_singleton.1 h
    omega
  ·rw [if_neg c0] at b5
   intro j hj hj1
   by_cases c1 : s2.op.getD i 0 = 1
   ·rw [if_pos c1] at b5
    refine b5.2.mem_iff.2 ?_
    rcases List.mem_append.1 hj with h | h
    ·exact List.mem_append_left _ (a9 j h (by rw [← hne j h]; exact hj1))
    ·obtain rfl := List.mem_singleton.1 h
     exact List.mem_append_right _ (List.mem_singleton.2 rfl)
   ·rw [if_neg c1] at b5
    rw [b5.2]
    rcases List.mem_append.1 hj with h | h
    ·exact a9 j h (by rw [← hne j h]; exact hj1)
    ·obtain rfl := List.mem_singleton.1 h
     exact absurd hj1 c1
theorem satL_len (sa : List Bool) (r : List Nat) : (satL sa r).length = sa.length := by
 unfold satL
 induction r generalizing sa with
 | nil => rfl
 | cons i r ih => rw [List.foldl_cons, ih, List.length_set]
theorem satL_get (sa : List Bool) (r : List Nat) : ∀ (j : Nat), j < sa.length → ((satL sa r).getD j false = true ↔ sa.getD j false = true ∨ j ∈ r) := by
 unfold satL
 induction r generalizing sa with
 | nil => intro j _; simp
 | cons i r ih =>
  intro j hj
  rw [List.foldl_cons, ih (sa.set i true) j (by rw [List.length_set]; exact hj), getD_set, List.mem_cons]
  by_cases e : i = j
  ·subst e; rw [if_pos ⟨rfl, hj⟩]; simp
  ·rw [if_neg (fun h => e h.1)]
   constructor
   ·rintro (h | h)
    ·exact .inl h
    ·exact .inr (.inr h)
   ·rintro (h | h | h)
    ·exact .inl h
    ·exact absurd h.symm e
    ·exact .inr h
theorem neg_neg (l : Li) : l.neg.neg = l := by cases l; simp [Li.neg]
theorem opn_cons {T c : List Li} {l : Li} (hn : T.contains l = false) (hd : c.Nodup) : (opn (l :: T) c : Int) = (opn T c : Int) - if l.neg ∈ c then 1 else 0 := by
 unfold opn
 induction c with
 | nil => simp
 | cons m c ih =>
  have ihc := ih (List.nodup_cons.1 hd).2
  have hm := (List.nodup_cons.1 hd).1
  by_cases e : m = l.neg
  ·subst e
   have h1 : (!(l :: T).contains l.neg.neg) = false := by rw [neg_neg]; simp
   have h2 : (!T.contains l.neg.neg) = true := by rw [neg_neg, hn]; rfl
   rw [List.filter_cons_of_neg (p := fun (m : Li) => !(l :: T).contains m.neg) (by rw [h1]; decide), List.filter_cons_of_pos (p := fun (m : Li) => !T.contains m.neg) h2, List.length_cons, if_pos List.mem_cons_self]
   rw [if_neg hm] at ihc
   omega
  ·have h1 : (!(l :: T).contains m.neg) = (!T.contains m.neg) := by
    rw [List.contains_cons]
    have : (m.neg == l) = false := by
     rw [beq_eq_false_iff_ne]
     intro h; exact e (by rw [← h, neg_neg])
    rw [this, Bool.false_or]
   have hiff : (l.neg ∈ m :: c) ↔ l.neg ∈ c := by rw [List.mem_cons]; exact ⟨fun h => h.resolve_left (fun h => e h.symm), .inr⟩
   simp only [hiff]
   cases hb : (!T.contains m.neg) with
   | true =>
    rw [List.filter_cons_of_pos (p := fun (m : Li) => !(l :: T).contains m.neg) (by rw [h1]; exact hb), List.filter_cons_of_pos (p := fun (m : Li) => !T.contains m.neg) hb, List.length_cons, List.length_cons]
    omega
   | false =>
    rw [List.filter_cons_of_neg (p := fun (m : Li) => !(l :: T).contains m.neg) (by rw [h1, hb]; decide), List.filter_cons_of_neg (p := fun (m : Li) => !T.contains m.neg) (by rw [hb]; decide)]
    exact ihc
theorem PInv.add {dl : List (List Li)} {pl : Li → List Nat} {ex : Nat → Prop} {s s' : Pg} {l : Li} (S : Sta dl pl) (h : PInv dl ex s) (hn : s.T.contains l = false) (ha : AddR pl s l s') (hex : ∀ i, ex i → l ∈ dl.getD i []) :
  PInv dl (fun _ => False) s' ∧ s'.T = l :: s.T ∧ meas s' ≤ meas s := by
 unfold AddR at ha
 rw [if_neg (by rw [hn]; decide)] at ha
 have hlt : ∀ m, ∀ i ∈ pl m, i < s.op.length := fun m i hi => by rw [h.ol]; exact ((S.at_ m i).1 hi).1
 obtain ⟨a1, a2, a3, a4, a5, a6, a7, a8, a9⟩ := decR_spec ha (S.pnd _) (hlt _)
 have hm := decR_meas ha (hlt _)
 have hl := decR_len ha
 simp only at a1 a2 a3 a4 a5 a6 a7 a8 a9 hl
 have hop : ∀ i, i < dl.length → s'.op.getD i 0 = (opn s'.T (dl.getD i []) : Int) := fun i hi => by
  rw [a4, h.op i hi, a2, opn_cons hn (S.nd i)]
  by_cases e : l.neg ∈ dl.getD i []
  ·rw [if_pos e, if_pos ((S.at_ _ _).2 ⟨hi, e⟩)]
  ·rw [if_neg e, if_neg (fun h => e ((S.at_ _ _).1 h).2)]
 have hle : ∀ i, s'.op.getD i 0 ≤ s.op.getD i 0 := fun i => by rw [a4]; split <;> omega
 have hsa : ∀ i, i < dl.length → (s'.sa.getD i false = true ↔ s.sa.getD i false = true ∨ l ∈ dl.getD i []) := fun i hi => by
  rw [a3, satL_get _ _ _ (by rw [h.sl]; exact hi), S.at_]
  exact ⟨fun h => h.imp id (fun h => h.2), fun h => h.imp id (fun h => ⟨hi, h⟩)⟩
 refine ⟨⟨by rw [hl, h.ol], by rw [a3, satL_len, h.sl], hop, fun i hi => ?_, fun x hx => ?_, fun hf => ?_, fun hf i hi => ?_, fun i hi _ h1 h2 => ?_⟩, a2, hm⟩
 ·rw [hsa i hi, h.sa i hi, a2]
  constructor
  ·rintro (⟨m, hm, ht⟩ | h)
   ·exact ⟨m, hm, List.mem_cons_of_mem _ ht⟩
   ·exact ⟨l, h, List.mem_cons_self⟩
  ·rintro ⟨m, hm, ht⟩
   rcases List.mem_cons.1 ht with e | e
   ·exact .inr (e ▸ hm)
   ·exact .inl ⟨m, hm, e⟩
 ·rcases a7 x hx with h1 | ⟨i, hi, e1, e2⟩
  ·obtain ⟨i, e, hi, ho⟩ := h.U x h1
   exact ⟨i, e, hi, Int.le_trans (hle i) ho⟩
  ·exact ⟨i, e1, ((S.at_ _ _).1 hi).1, by omega⟩
 ·rcases a5 hf with e | ⟨i, hi, e1, e2⟩
  ·rw [e] at hf ⊢
   obtain ⟨i, e, hi, ho⟩ := h.f1 hf
   refine ⟨i, e, hi, ?_⟩
   have h1 := hle i
   have h2 := hop i hi
   omega
  ·exact ⟨i, e1, ((S.at_ _ _).1 hi).1, e2⟩
 ·obtain ⟨b1, b2⟩ := a6 hf
  by_cases e : i ∈ pl l.neg
  ·exact b2 i e
  ·rw [a4, if_neg e]
   have := h.f0 b1 i hi
   omega
 ·have hns : s.sa.getD i false = false := by
   cases hh : s.sa.getD i false with
   | false => rfl
   | true => rw [(hsa i hi).2 (.inl hh)] at h2; cases h2
  have hnl : l ∉ dl.getD i [] := fun hh => by rw [(hsa i hi).2 (.inr hh)] at h2; cases h2
  by_cases e : i ∈ pl l.neg
  ·exact a9 i e h1
  ·rw [a4, if_neg e] at h1
   exact a8 _ (h.u1 i hi (fun hh => hnl (hex i hh)) (by omega) hns)
def Dull (dl : List (List Li)) (s : Pg) (x : Int) : Prop := s.sa.getD x.toNat false = true ∨ ∀ l ∈ dl.getD x.toNat [], s.T.contains l.neg = true
def NxR (dl : List (List Li)) (s : Pg) (r : Option Li) (s1 : Pg) : Prop := ∃ ps U1, s.U.Perm (ps ++ U1) ∧ s1 = { s with U := U1 } ∧ match r with
 | none => U1 = [] ∧ ∀ x ∈ ps, Dull dl s x
 | some l => ∃ i : Nat, (i : Int) ∈ ps ∧ l ∈ dl.getD i [] ∧ s.T.contains l.neg = false ∧ s.sa.getD i false = false ∧ ∀ x ∈ ps, x = (i : Int) ∨ Dull dl s x
theorem opn_dull {T c : List Li} (h : ∀ l ∈ c, T.contains l.neg = true) : opn T c = 0 := by
 unfold opn
 rw [List.filter_eq_nil_iff.2 (fun l hl => by rw [h l hl]; decide)]
 rfl
theorem PInv.next_some {dl : List (List Li)} {s s1 : Pg} {l : Li} (h : PInv dl (fun _ => False) s) (hn : NxR dl s (some l) s1) :
  ∃ i, PInv dl (fun j => j = i) s1 ∧ i < dl.length ∧ l ∈ dl.getD i [] ∧ s1.T = s.T ∧ s1.T.contains l = false ∧ meas s1 < meas s ∧
   ∀ a, (∀ m ∈ s.T, WageTop.satL a m) → satC a (dl.getD i []) → WageTop.satL a l := by
 obtain ⟨ps, U1, hp, rfl, i, hi, hl, hc, hs, hd⟩ := hn
 have hiU : (i : Int) ∈ s.U := hp.mem_iff.2 (List.mem_append_left _ hi)
 obtain ⟨i', e, hlt, ho⟩ := h.U _ hiU
 obtain rfl : i = i' := by omega
 have hnT : s.T.contains l = false := by
  cases hh : s.T.contains l with
  | false => rfl
  | true => rw [(h.sa i hlt).2 ⟨l, hl, List.contains_iff_mem.1 hh⟩] at hs; cases hs
 refine ⟨i, ⟨h.ol, h.sl, h.op, h.sa, fun x hx => h.U x (hp.mem_iff.2 (List.mem_append_right _ hx)), h.f1, h.f0, fun j hj he h1 h2 => ?_⟩, hlt, hl, rfl, hnT, ?_, fun a ha hsat => ?_⟩
 ·have hj2 := h.u1 j hj (fun h => h) h1 h2
  rcases List.mem_append.1 (hp.mem_iff.1 hj2) with hh | hh
  ·rcases hd _ hh with e | e
   ·exact absurd (by omega) he
   ·rcases e with e | e
    ·rw [show ((j : Int)).toNat = j by omega] at e
     rw [e] at h2; cases h2
    ·rw [show ((j : Int)).toNat = j by omega] at e
     have h3 := h.op j hj
     rw [opn_dull e] at h3
     simp only at h1
     omega
  ·exact hh
 ·have := hp.length_eq
  rw [List.length_append] at this
  have hps : 0 < ps.length := List.length_pos_of_mem hi
  unfold meas
  simp only
  omega
 ·obtain ⟨m, hm, hsm⟩ := hsat
  have hmT : s.T.contains m.neg = false := by
   cases hh : s.T.contains m.neg with
   | false => rfl
   | true => exact absurd hsm (sat_neg.1 (ha _ (List.contains_iff_mem.1 hh)))
  have h3 := h.op i hlt
  unfold opn at h3
  have hml : m ∈ (dl.getD i []).filter (fun l => !s.T.contains l.neg) := List.mem_filter.2 ⟨hm, by rw [hmT]; rfl⟩
  have hll : l ∈ (dl.getD i []).filter (fun l => !s.T.contains l.neg) := List.mem_filter.2 ⟨hl, by rw [hc]; rfl⟩
  have hone : ((dl.getD i []).filter (fun l => !s.T.contains l.neg)).length ≤ 1 := by omega
  have : m = l := by
   cases hf : (dl.getD i []).filter (fun l => !s.T.contains l.neg) with
   | nil => rw [hf] at hml; cases hml
   | cons x xs =>
    rw [hf] at hml hll hone
    have hx : xs = [] := List.length_eq_zero_iff.1 (by rw [List.length_cons] at hone; omega)
    subst hx
    rw [List.mem_singleton.1 hml, List.mem_singleton.1 hll]
  exact this ▸ hsm
/-- What Unit says of clauses: where it names one, they can't all hold; else each has an open literal, and a true one or two open ones. -/
def UnitR (cl : List (List Li)) (at_ : Int) : Prop :=
 (0 ≤ at_ → ∀ a, ¬ ∀ c ∈ cl, satC a c) ∧
 (at_ < 0 → ∃ T : List Li, ∀ c ∈ cl, (∃ l ∈ c, l.neg ∉ T) ∧ ((∃ l ∈ c, l ∈ T) ∨ ∃ l ∈ c, ∃ m ∈ c, l ≠ m ∧ l.neg ∉ T ∧ m.neg ∉ T))
/-- The clauses without doubles say the same. -/
def Dedup (cl dl : List (List Li)) : Prop := dl.length = cl.length ∧ ∀ i l, l ∈ dl.getD i [] ↔ l ∈ cl.getD i []
theorem PInv.done {cl dl : List (List Li)} {pl : Li → List Nat} {s s1 : Pg} (S : Sta dl pl) (hD : Dedup cl dl) (h : PInv dl (fun _ => False) s) (ht : ∀ a, (∀ c ∈ cl, satC a c) → ∀ m ∈ s.T, WageTop.satL a m) (hf : 0 ≤ s.fa ∨ NxR dl s none s1) : UnitR cl s.fa := by
 constructor
 ·intro h0 a ha
  obtain ⟨i, e, hi, ho⟩ := h.f1 h0
  have h1 := h.op i hi
  rw [ho] at h1
  unfold opn at h1
  have h2 := List.length_eq_zero_iff.1 (show ((dl.getD i []).filter (fun l => !s.T.contains l.neg)).length = 0 by omega)
  rw [List.filter_eq_nil_iff] at h2
  have hic : i < cl.length := by rw [← hD.1]; exact hi
  obtain ⟨m, hm, hs⟩ := ha (cl.getD i []) (by rw [List.getD_eq_getElem?_getD, List.getElem?_eq_getElem hic]; exact List.getElem_mem hic)
  have h3 := h2 m ((hD.2 i m).2 hm)
  have h4 : s.T.contains m.neg = true := by
   cases hh : s.T.contains m.neg with
   | true => rfl
   | false => rw [hh] at h3; exact absurd rfl h3
  exact sat_neg.1 (ht a ha _ (List.contains_iff_mem.1 h4)) hs
 ·intro h0
  rcases hf with hf | hf
  ·omega
  ·obtain ⟨ps, U1, hp, rfl, hU, hd⟩ := hf
   subst hU
   refine ⟨s.T, fun c hc => ?_⟩
   obtain ⟨i, hi, rfl⟩ := List.mem_iff_getElem.1 hc
   have hg : cl.getD i [] = cl[i] := by rw [List.getD_eq_getElem?_getD, List.getElem?_eq_getElem hi]; rfl
   rw [← hg]
   have hid : i < dl.length := by rw [hD.1]; exact hi
   have h1 := h.op i hid
   have h2 := h.f0 h0 i hid
   have hopen : ∀ m, m ∈ (dl.getD i []).filter (fun l => !s.T.contains l.neg) → m ∈ cl.getD i [] ∧ m.neg ∉ s.T := fun m hm => by
    obtain ⟨h3, h4⟩ := List.mem_filter.1 hm
    refine ⟨(hD.2 i m).1 h3, fun h5 => ?_⟩
    rw [List.contains_iff_mem.2 h5] at h4
    cases h4
   unfold opn at h1
   cases hF : (dl.getD i []).filter (fun l => !s.T.contains l.neg) with
   | nil => rw [hF] at h1; exact absurd h1 h2
   | cons x xs =>
    rw [hF] at hopen h1
    obtain ⟨x1, x2⟩ := hopen x List.mem_cons_self
    refine ⟨⟨x, x1, x2⟩, ?_⟩
    cases xs with
    | nil =>
     refine .inl ?_
     have hsat : s.sa.getD i false = true := by
      cases hh : s.sa.getD i false with
      | true => rfl
      | false =>
       have hU := h.u1 i hid (fun h => h) (by rw [h1]; rfl) hh
       rw [List.append_nil] at hp
       rcases hd _ (hp.mem_iff.1 hU) with e | e
       ·rw [show ((i : Int)).toNat = i by omega, hh] at e; cases e
       ·rw [show ((i : Int)).toNat = i by omega] at e
        have h3 := e x (List.mem_filter.1 (hF ▸ List.mem_cons_self)).1
        exact absurd (List.contains_iff_mem.1 h3) x2
     obtain ⟨l, hl, hT⟩ := (h.sa i hid).1 hsat
     exact ⟨l, (hD.2 i l).1 hl, hT⟩
    | cons y ys =>
     obtain ⟨y1, y2⟩ := hopen y (List.mem_cons_of_mem _ List.mem_cons_self)
     have hnd : ((dl.getD i []).filter (fun l => !s.T.contains l.neg)).Nodup := (S.nd i).filter _
     rw [hF] at hnd
     exact .inr ⟨x, x1, y, y1, fun e => (List.nodup_cons.1 hnd).1 (e ▸ List.mem_cons_self), x2, y2⟩
def someS (nW d : Nat) : Stp := ⟨(List.range nW).map (fun (w : Nat) => (⟨d, w, true⟩ : Li)), 1, []⟩
def oneS (d f s : Nat) : Stp := ⟨[⟨d, f, false⟩, ⟨d, s, false⟩], 2, []⟩
def bad1 (w d : Nat) : Stp := ⟨[⟨d, w, false⟩], 3, []⟩
def bad2 (w f s : Nat) : Stp := ⟨[⟨f, w, false⟩, ⟨s, w, false⟩], 3, []⟩
def asg1 (n w d : Nat) : List Int := (List.replicate n (-1)).set d w
def asg2 (n w f s : Nat) : List Int := (asg1 n w f).set s w
def aloneB (E : Env) (w d : Nat) : Bool := E.viol w (idxF 0 (asg1 E.nD w d) w)
def pairB (E : Env) (w f s : Nat) : Bool := !aloneB E w f && (!aloneB E w s && E.viol w (idxF 0 (asg2 E.nD w f s) w))
def someA (nD nW : Nat) : List Stp := (List.range nD).map (someS nW)
def oneA1 (nW d : Nat) : List Stp := (List.range nW).flatMap fun f => (List.range' (f + 1) (nW - (f + 1))).map fun s => oneS d f s
def oneA (nD nW : Nat) : List Stp := (List.range nD).flatMap fun d => oneA1 nW d
def aloneA1 (E : Env) (w k : Nat) : List Stp := (List.range k).flatMap fun d => if aloneB E w d then [bad1 w d] else []
def aloneA (E : Env) (k : Nat) : List Stp := (List.range k).flatMap fun w => aloneA1 E w E.nD
def pairA2 (E : Env) (w f k : Nat) : List Stp := (List.range' (f + 1) k).flatMap fun s => if pairB E w f s then [bad2 w f s] else []
def pairA1 (E : Env) (w k : Nat) : List Stp := (List.range k).flatMap fun f => pairA2 E w f (E.nD - (f + 1))
def pairA (E : Env) (k : Nat) : List Stp := (List.range k).flatMap fun w => pairA1 E w E.nD
/-- The base steps of a plan. -/
def baseF (E : Env) : List Stp := someA E.nD E.nW ++ oneA E.nD E.nW ++ aloneA E E.nW ++ pairA E E.nW
inductive IsBase (E : Env) : Stp → Prop
 | some {d : Nat} : d < E.nD → IsBase E (someS E.nW d)
 | one {d f s : Nat} : d < E.nD → f < s → s < E.nW → IsBase E (oneS d f s)
 | bad1 {w d : Nat} : w < E.nW → d < E.nD → aloneB E w d = true → IsBase E (bad1 w d)
 | bad2 {w f s : Nat} : w < E.nW → f < s → s < E.nD → E.viol w (idxF 0 (asg2 E.nD w f s) w) = true → IsBase E (bad2 w f s)
theorem base_is {E : Env} {s : Stp} (h : s ∈ baseF E) : IsBase E s := by
 unfold baseF at h
 rw [List.mem_append, List.mem_append, List.mem_append] at h
 rcases h with ((h | h) | h) | h
 ·obtain ⟨d, hd, rfl⟩ := List.mem_map.1 h
  exact .some (List.mem_range.1 hd)
 ·obtain ⟨d, hd, h⟩ := List.mem_flatMap.1 h
  obtain ⟨f, hf, h⟩ := List.mem_flatMap.1 h
  obtain ⟨s, hs, rfl⟩ := List.mem_map.1 h
  have := List.mem_range'_1.1 hs
  exact .one (List.mem_range.1 hd) (by omega) (by omega)
 ·obtain ⟨w, hw, h⟩ := List.mem_flatMap.1 h
  obtain ⟨d, hd, h⟩ := List.mem_flatMap.1 h
  split at h
  ·rw [List.mem_singleton.1 h]
   exact .bad1 (List.mem_range.1 hw) (List.mem_range.1 hd) ‹_›
  ·cases h
 ·obtain ⟨w, hw, h⟩ := List.mem_flatMap.1 h
  obtain ⟨f, hf, h⟩ := List.mem_flatMap.1 h
  obtain ⟨s, hs, h⟩ := List.mem_flatMap.1 h
  have := List.mem_range'_1.1 hs
  split at h
  ·rename_i hp
   rw [List.mem_singleton.1 h]
   unfold pairB at hp
   rw [Bool.and_eq_true, Bool.and_eq_true] at hp
   exact .bad2 (List.mem_range.1 hw) (by omega) (by omega) hp.2.2
  ·cases h
theorem eqSome_map (d : Nat) : ∀ (n k : Nat), eqSome (d : Int) k ((List.range' k n).map (fun (w : Nat) => (⟨d, w, true⟩ : Li))) = true
 | 0, k => rfl
 | n + 1, k => by
  rw [List.range'_succ, List.map_cons]
  unfold eqSome
  rw [decide_eq_true rfl, Bool.true_and]
  exact eqSome_map d n (k + 1)
theorem violated_of {E : Env} {r : List Int} {w : Nat} (hw : w < E.nW) (h : E.viol w (idxF 0 r w) = true) : violated E r = true := by
 unfold violated
 rw [List.any_eq_true]
 exact ⟨w, List.mem_range.2 hw, h⟩
theorem getD_rep (n d : Nat) (h : d < n) : (List.replicate n (-1 : Int)).getD d 0 = -1 := by
 rw [List.getD_eq_getElem?_getD, List.getElem?_replicate, if_pos h]; rfl
theorem den1 {E : Env} {w d : Nat} (hd : d < E.nD) : denied E (bad1 w d) = some (asg1 E.nD w d) := by
 unfold denied bad1 asg1
 simp only [List.isEmpty_nil, List.isEmpty_cons, Bool.not_false, Bool.and_self, if_true]
 unfold deny
 simp only [Int.toNat_natCast, getD_rep _ _ hd]
 rw [if_pos (by decide)]
 rfl
theorem den2 {E : Env} {w f s : Nat} (hf : f < s) (hs : s < E.nD) : denied E (bad2 w f s) = some (asg2 E.nD w f s) := by
 unfold denied bad2 asg2 asg1
 simp only [List.isEmpty_nil, List.isEmpty_cons, Bool.not_false, Bool.and_self, if_true]
 unfold deny
 simp only [Int.toNat_natCast, getD_rep _ _ (show f < E.nD by omega)]
 rw [if_pos (by decide)]
 unfold deny
 have h : ((List.replicate E.nD (-1 : Int)).set f (w : Int)).getD s 0 = -1 := by
  rw [List.getD_eq_getElem?_getD, List.getElem?_set_ne (by omega), ← List.getD_eq_getElem?_getD, getD_rep _ _ hs]
 simp only [Int.toNat_natCast, h]
 rw [if_pos (by decide)]
 rfl
theorem base_follows {E : Env} {s : Stp} (h : IsBase E s) (bound : Int) (log : List Stp) (k : Nat) : followsB E bound log k s = true := by
 unfold followsB
 cases h with
 | @some d hd =>
  have h1 : (someS E.nW d).cl.all (proper E) = true := by
   rw [List.all_eq_true]
   intro l hl
   obtain ⟨w, hw, rfl⟩ := List.mem_map.1 hl
   have := List.mem_range.1 hw
   exact decide_eq_true ⟨by simp only; omega, by simp only; omega, by simp only; omega, by simp only; omega⟩
  rw [h1, Bool.true_and, show (someS E.nW d).rule = 1 from rfl, if_pos rfl]
  unfold someB
  rw [show (someS E.nW d).frm = [] from rfl, decide_eq_true (show 0 < E.nD by omega), decide_eq_true (show (someS E.nW d).cl.length = E.nW by unfold someS; rw [List.length_map, List.length_range])]
  have h2 : eqSome (d : Int) 0 (someS E.nW d).cl = true := by
   have := eqSome_map d E.nW 0
   rw [← List.range_eq_range'] at this
   exact this
  simp only [List.isEmpty_nil, Bool.true_and]
  cases hc : (someS E.nW d).cl with
  | nil => rfl
  | cons x r =>
   have hx : x.d = d := by
    have : x ∈ (someS E.nW d).cl := hc ▸ List.mem_cons_self
    obtain ⟨w, hw, rfl⟩ := List.mem_map.1 this
    rfl
   simp only
   rw [hx, ← hc]
   exact h2
 | @one d f s hd hf hs =>
  have h1 : (oneS d f s).cl.all (proper E) = true := by
   rw [List.all_eq_true]
   intro l hl
   rcases List.mem_cons.1 hl with rfl | hl
   ·exact decide_eq_true ⟨by simp only; omega, by simp only; omega, by simp only; omega, by simp only; omega⟩
   ·rw [List.mem_singleton.1 hl]
    exact decide_eq_true ⟨by simp only; omega, by simp only; omega, by simp only; omega, by simp only; omega⟩
  rw [h1, Bool.true_and, show (oneS d f s).rule = 2 from rfl, if_neg (by decide), if_pos rfl]
  unfold oneB oneS
  simp only [List.isEmpty_nil, Bool.not_false, Bool.true_and, decide_true, decide_eq_true_eq]
  omega
 | @bad1 w d hw hd ha =>
  have h1 : (Go.Proofs.YtnnbibmmofnkdaaGreat.bad1 w d).cl.all (proper E) = true := by
   rw [List.all_eq_true]
   intro l hl
   rw [List.mem_singleton.1 hl]
   exact decide_eq_true ⟨by simp only; omega, by simp only; omega, by simp only; omega, by simp only; omega⟩
  rw [h1, Bool.true_and, show (Go.Proofs.YtnnbibmmofnkdaaGreat.bad1 w d).rule = 3 from rfl, if_neg (by decide), if_neg (by decide), if_pos rfl]
  unfold badB
  rw [den1 hd]
  exact violated_of hw ha
 | @bad2 w f s hw hf hs ha =>
  have h1 : (Go.Proofs.YtnnbibmmofnkdaaGreat.bad2 w f s).cl.all (proper E) = true := by
   rw [List.all_eq_true]
   intro l hl
   rcases List.mem_cons.1 hl with rfl | hl
   ·exact decide_eq_true ⟨by simp only; omega, by simp only; omega, by simp only; omega, by simp only; omega⟩
   ·rw [List.mem_singleton.1 hl]
    exact decide_eq_true ⟨by simp only; omega, by simp only; omega, by simp only; omega, by simp only; omega⟩
  rw [h1, Bool.true_and, show (Go.Proofs.YtnnbibmmofnkdaaGreat.bad2 w f s).rule = 3 from rfl, if_neg (by decide), if_neg (by decide), if_pos rfl]
  unfold badB
  rw [den2 hf hs]
  exact violated_of hw ha
theorem full_get {E : Env} {a : List Int} (h : Full E a) {d : Nat} (hd : d < E.nD) : ∃ w : Nat, a[d]? = some (w : Int) ∧ a.getD d 0 = (w : Int) ∧ w < E.nW := by
 have hl : d < a.length := by rw [h.1]; exact hd
 have h1 := h.2 _ (List.getElem_mem hl)
 have h2 := List.getElem?_eq_getElem hl
 refine ⟨a[d].toNat, ?_, ?_, ?_⟩
 ·rw [h2]; congr 1; omega
 ·rw [List.getD_eq_getElem?_getD, h2]
  show a[d] = _
  omega
 ·omega
theorem base_sat {E : Env} (ok : E.Ok) {s : Stp} (h : IsBase E s) {a : List Int} (ha : Full E a) (hv : violated E a = false) : satC a s.cl := by
 have hag : Agree (List.replicate E.nD (-1)) a := by rw [← ha.1]; exact agree_minus a
 have hno : ∀ r, Agree r a → violated E r = true → False := fun r hr h => by
  rw [hr.viol ok (by rw [ha.1]; exact Nat.le_refl _) h] at hv
  cases hv
 cases h with
 | @some d hd =>
  obtain ⟨w, _, h2, hw⟩ := full_get ha hd
  refine ⟨⟨d, w, true⟩, List.mem_map.2 ⟨w, List.mem_range.2 hw, rfl⟩, ?_⟩
  unfold WageTop.satL
  simp only [Int.toNat_natCast, h2]
 | @one d f s hd hf hs =>
  obtain ⟨w, _, h2, hw⟩ := full_get ha hd
  by_cases e : w = f
  ·refine ⟨⟨d, s, false⟩, List.mem_cons_of_mem _ List.mem_cons_self, ?_⟩
   unfold WageTop.satL
   simp only [Int.toNat_natCast, h2, Bool.false_eq_true, iff_false]
   omega
  ·refine ⟨⟨d, f, false⟩, List.mem_cons_self, ?_⟩
   unfold WageTop.satL
   simp only [Int.toNat_natCast, h2, Bool.false_eq_true, iff_false]
   omega
 | @bad1 w d hw hd hb =>
  obtain ⟨w', h1, h2, hw'⟩ := full_get ha hd
  refine ⟨⟨d, w, false⟩, List.mem_cons_self, ?_⟩
  unfold WageTop.satL
  simp only [Int.toNat_natCast, h2, Bool.false_eq_true, iff_false]
  intro e
  obtain rfl : w' = w := by omega
  exact hno _ (hag.set h1) (violated_of hw hb)
 | @bad2 w f s hw hf hs hb =>
  obtain ⟨w1, h1, h2, hw1⟩ := full_get ha (show f < E.nD by omega)
  obtain ⟨w2, h3, h4, hw2⟩ := full_get ha hs
  by_cases e : w1 = w
  ·refine ⟨⟨s, w, false⟩, List.mem_cons_of_mem _ List.mem_cons_self, ?_⟩
   unfold WageTop.satL
   simp only [Int.toNat_natCast, h4, Bool.false_eq_true, iff_false]
   intro e2
   obtain rfl : w2 = w := by omega
   subst e
   exact hno _ ((hag.set h1).set h3) (violated_of hw hb)
  ·refine ⟨⟨f, w, false⟩, List.mem_cons_self, ?_⟩
   unfold WageTop.satL
   simp only [Int.toNat_natCast, h2, Bool.false_eq_true, iff_false]
   omega
/-- With no workers, the base steps are an empty clause for each duty. -/
theorem base_none {E : Env} (h : E.nW = 0) : baseF E = (List.range E.nD).map (fun _ => (⟨[], 1, []⟩ : Stp)) := by
 unfold baseF aloneA pairA oneA oneA1 someA
 rw [h]
 have : ∀ (n : Nat), (List.range n).flatMap (fun _ => ([] : List Stp)) = [] := fun n => by
  rw [List.flatMap_eq_nil_iff]; intro _ _; rfl
 simp only [List.range_zero, List.flatMap_nil, this, List.append_nil]
 rfl
theorem base_cl_none {E : Env} (h : E.nW = 0) {at_ : Int} (hu : UnitR ((baseF E).map (·.cl)) at_) : (0 ≤ at_ ↔ 0 < E.nD) := by
 rw [base_none h] at hu
 constructor
 ·intro h0
  rcases Nat.eq_zero_or_pos E.nD with e | e
  ·exfalso
   rw [e] at hu
   exact hu.1 h0 [] (fun c hc => by cases hc)
  ·exact e
 ·intro h0
  rcases Int.lt_or_le at_ 0 with e | e
  ·exfalso
   obtain ⟨T, hT⟩ := hu.2 e
   obtain ⟨⟨l, hl, _⟩, _⟩ := hT [] (List.mem_map.2 ⟨⟨[], 1, []⟩, List.mem_map.2 ⟨0, List.mem_range.2 h0, rfl⟩, rfl⟩)
   cases hl
  ·exact e
theorem base_cl_some {E : Env} (ok : E.Ok) {at_ : Int} (hu : UnitR ((baseF E).map (·.cl)) at_) (h0 : 0 ≤ at_) {a : List Int} (ha : Full E a) : violated E a = true := by
 cases hv : violated E a with
 | true => rfl
 | false =>
  exfalso
  refine hu.1 h0 a fun c hc => ?_
  obtain ⟨s, hs, rfl⟩ := List.mem_map.1 hc
  exact base_sat ok (base_is hs) ha hv
/-- The fixed example. -/
theorem fix_unit {at_ : Int} (hu : UnitR [[⟨0, 0, true⟩, ⟨0, 1, true⟩], [⟨1, 0, true⟩, ⟨1, 1, true⟩], [⟨0, 0, false⟩, ⟨0, 1, false⟩], [⟨1, 0, false⟩, ⟨1, 1, false⟩], [⟨0, 1, false⟩], [⟨1, 1, false⟩], [⟨0, 0, false⟩, ⟨1, 0, false⟩]] at_) : 0 ≤ at_ := by
 rcases Int.lt_or_le at_ 0 with e | e
 ·exfalso
  obtain ⟨T, hT⟩ := hu.2 e
  have one : ∀ l : Li, ((∃ m ∈ [l], m ∈ T) ∨ ∃ m ∈ [l], ∃ n ∈ [l], m ≠ n ∧ m.neg ∉ T ∧ n.neg ∉ T) → l ∈ T := by
   rintro l (⟨m, hm, h⟩ | ⟨m, hm, n, hn, h, _⟩)
   ·rw [List.mem_singleton.1 hm] at h; exact h
   ·rw [List.mem_singleton.1 hm, List.mem_singleton.1 hn] at h; exact absurd rfl h
  have two : ∀ l k : Li, k.neg ∈ T → k ∉ T → ((∃ m ∈ [l, k], m ∈ T) ∨ ∃ m ∈ [l, k], ∃ n ∈ [l, k], m ≠ n ∧ m.neg ∉ T ∧ n.neg ∉ T) → l ∈ T := by
   rintro l k hk hk2 (⟨m, hm, h⟩ | ⟨m, hm, n, hn, h, h1, h2⟩)
   ·rcases List.mem_cons.1 hm with rfl | hm
    ·exact h
    ·rw [List.mem_singleton.1 hm] at h; exact absurd h hk2
   ·rcases List.mem_cons.1 hm with rfl | hm
    ·rcases List.mem_cons.1 hn with rfl | hn
     ·exact absurd rfl h
     ·rw [List.mem_singleton.1 hn] at h2; exact absurd hk h2
    ·rw [List.mem_singleton.1 hm] at h1; exact absurd hk h1
  have a4 := hT [⟨0, 1, false⟩] (by simp)
  have a5 := hT [⟨1, 1, false⟩] (by simp)
  have m4 := one _ a4.2
  have m5 := one _ a5.2
  have n4 : (⟨0, 1, true⟩ : Li) ∉ T := by
   obtain ⟨l, hl, h⟩ := a4.1
   rw [List.mem_singleton.1 hl] at h; exact h
  have n5 : (⟨1, 1, true⟩ : Li) ∉ T := by
   obtain ⟨l, hl, h⟩ := a5.1
   rw [List.mem_singleton.1 hl] at h; exact h
  have m0 := two ⟨0, 0, true⟩ ⟨0, 1, true⟩ m4 n4 (hT _ (by simp)).2
  have m1 := two ⟨1, 0, true⟩ ⟨1, 1, true⟩ m5 n5 (hT _ (by simp)).2
  obtain ⟨l, hl, h⟩ := (hT [⟨0, 0, false⟩, ⟨1, 0, false⟩] (by simp)).1
  rcases List.mem_cons.1 hl with rfl | hl
  ·exact h m0
  ·rw [List.mem_singleton.1 hl] at h; exact h m1
 ·exact e
end Go.Proofs.YtnnbibmmofnkdaaGreat
