/-
  Persons and their orders, in plain words.
-/
import Derived.Test.YtjpnodmcglcihaaRecQ
import Derived.Test.YtjpnodmcglcihaaIterL
namespace WageOrd
open WageMap
/-- The person's own orders among the first ones. -/
def ownL (l : List Ord) (p : ByteArray) (i : Nat) : List Ord := (l.take i).filter fun x => decide (x.p = p)
theorem own_in {l : List Ord} {p : ByteArray} {i : Nat} {x : Ord} (h : l[i]? = some x) (hp : x.p = p) : ownL l p (i + 1) = ownL l p i ++ [x] := by
  unfold ownL; rw [List.take_add_one, h, List.filter_append]; simp [hp]
theorem own_out {l : List Ord} {p : ByteArray} {i : Nat} {x : Ord} (h : l[i]? = some x) (hp : x.p ≠ p) : ownL l p (i + 1) = ownL l p i := by
  unfold ownL; rw [List.take_add_one, h, List.filter_append]; simp [hp]
theorem own_none {l : List Ord} {p : ByteArray} {i : Nat} (h : l[i]? = none) : ownL l p (i + 1) = ownL l p i := by
  unfold ownL; rw [List.take_add_one, h]; simp
theorem own_len {l : List Ord} {p : ByteArray} {i : Nat} : (ownL l p i).length ≤ i := Nat.le_trans (List.length_filter_le _ _) (by rw [List.length_take]; omega)
theorem own_mem {l : List Ord} {p : ByteArray} {i : Nat} {x : Ord} (h : x ∈ ownL l p i) : x ∈ l.take i ∧ x.p = p := by
  have := List.mem_filter.1 h
  exact ⟨this.1, of_decide_eq_true this.2⟩
theorem own_cnt {l : List Ord} {p : ByteArray} : ∀ {i : Nat}, okB l i = true → cnt (ownL l p i) p (ownL l p i).length = cnt l p i
  | 0, _ => rfl
  | i + 1, h => by
    have ih := own_cnt (p := p) (okB_le h (Nat.le_succ i))
    cases hx : l[i]? with
    | none =>
      rw [own_none hx, ih]
      conv => rhs; unfold cnt; rw [hx]
      rfl
    | some x =>
      by_cases hp : x.p = p
      · rw [own_in hx hp, List.length_append, List.length_singleton]
        have hE : (ownL l p i ++ [x])[(ownL l p i).length]? = some x := by simp
        have hc := cnt_part (ownL l p i ++ [x]) p (ownL l p i).length _ (Nat.le_refl _)
        rw [List.take_left] at hc
        conv => lhs; unfold cnt
        rw [hE, ← hc, ih, List.take_left]
        conv => rhs; unfold cnt; rw [hx]
        have ha : ((ownL l p i).any fun y => y.n == x.n) = ((l.take i).any fun y => y.n == x.n) := by
          rw [Bool.eq_iff_iff, List.any_eq_true, List.any_eq_true]
          constructor
          · rintro ⟨y, hy, hn⟩; exact ⟨y, (own_mem hy).1, hn⟩
          · rintro ⟨y, hy, hn⟩
            refine ⟨y, List.mem_filter.2 ⟨hy, decide_eq_true ?_⟩, hn⟩
            have h1 : y ∈ l.take (i + 1) := by rw [List.take_add_one]; exact List.mem_append_left _ hy
            have h2 : x ∈ l.take (i + 1) := by rw [List.take_add_one, hx]; simp
            rw [(ok_fit h h1 h2 (by simpa using hn)).1, hp]
        simp only []
        rw [ha]
      · rw [own_out hx hp, ih]
        conv => rhs; unfold cnt; rw [hx]
        simp [hp]
theorem own_ok {l : List Ord} {p : ByteArray} : ∀ {i : Nat}, okB l i = true → okB (ownL l p i) (ownL l p i).length = true
  | 0, _ => rfl
  | i + 1, h => by
    have ih := own_ok (p := p) (okB_le h (Nat.le_succ i))
    cases hx : l[i]? with
    | none => rw [own_none hx]; exact ih
    | some x =>
      by_cases hp : x.p = p
      · have hc := own_cnt (p := p) h
        have hg := okB_at h (Nat.lt_succ_self i) hx
        unfold goodB at hg
        simp only [Bool.and_eq_true, decide_eq_true_eq] at hg
        obtain ⟨⟨⟨h1, _⟩, h3⟩, h4⟩ := hg
        rw [own_in hx hp, List.length_append, List.length_singleton] at hc ⊢
        have hE : (ownL l p i ++ [x])[(ownL l p i).length]? = some x := by simp
        rw [okB_succ hE]
        have hk := ok_part (l := ownL l p i ++ [x]) (m := (ownL l p i).length) _ (Nat.le_refl _)
        rw [List.take_left] at hk
        rw [← hk, ih, Bool.true_and]
        refine good_of h1 ?_ ?_ ?_
        · cases he : (ownL l p i).length with
          | zero => rfl
          | succ j =>
            have hj : j < (ownL l p i).length := by omega
            simp only [prevB]
            rw [List.getElem?_append_left hj, List.getElem?_eq_getElem hj]
            have hm := (own_mem (List.getElem_mem hj)).1
            obtain ⟨m, hm⟩ := List.mem_iff_getElem?.1 hm
            rw [List.getElem?_take] at hm
            split at hm
            · rename_i hmi
              exact decide_eq_true (mono_k h (d := i - m) (i := m) (by omega) hm (by rw [show m + (i - m) = i by omega]; exact hx))
            · cases hm
        · unfold fitsB at h3 ⊢
          rw [List.take_left, List.all_eq_true]
          intro y hy
          exact List.all_eq_true.1 h3 y (own_mem hy).1
        · rw [hp] at h4 ⊢
          rw [hc]; omega
      · rw [own_out hx hp]; exact ih
theorem own_valid {l : List Ord} {p : ByteArray} (h : validB l = true) : validB (ownL l p l.length) = true := by
  obtain ⟨h1, h2⟩ := valid_len h
  have := own_len (l := l) (p := p) (i := l.length)
  unfold validB
  rw [own_ok h2, decide_eq_true (by omega)]; rfl
theorem own_cM {l : List Ord} {p : ByteArray} {kn : Int} : ∀ i, cM (ownL l p i) p kn (ownL l p i).length = cM l p kn i
  | 0 => rfl
  | i + 1 => by
    have ih := own_cM (l := l) (p := p) (kn := kn) i
    cases hx : l[i]? with
    | none => rw [own_none hx, cM_none hx]; exact ih
    | some x =>
      by_cases hp : x.p = p
      · have hE : (ownL l p i ++ [x])[(ownL l p i).length]? = some x := by simp
        rw [own_in hx hp, List.length_append, List.length_singleton]
        by_cases hk : x.k ≤ kn
        · rw [cM_yes hE hp hk, cM_yes hx hp hk, cM_snoc, ih]
        · rw [cM_no hE (fun h => hk h.2), cM_no hx (fun h => hk h.2), cM_snoc, ih]
      · rw [own_out hx hp, cM_no hx (fun h => hp h.1)]; exact ih
theorem own_open {l : List Ord} {p : ByteArray} {mo kn : Int} (h : validB l = true) : openL (ownL l p l.length) p mo kn = openL l p mo kn := by
  unfold openL
  rw [own_valid h, h, own_cM]
/-- The map of persons. -/
def pM (l : List Ord) : Nat → List (ByteArray × Bool)
  | 0 => []
  | i + 1 => match l[i]? with
    | some x => alPut x.p true (pM l i)
    | none => pM l i
theorem pM_succ {l : List Ord} {i : Nat} {x : Ord} (h : l[i]? = some x) : pM l (i + 1) = alPut x.p true (pM l i) := by
  conv => lhs; unfold pM
  rw [h]
theorem pM_keys (l : List Ord) : ∀ i, Keys (pM l i) ∧ ∀ x ∈ l.take i, x.p ∈ (pM l i).map Prod.fst
  | 0 => ⟨Keys.nil, by simp⟩
  | i + 1 => by
    obtain ⟨h1, h2⟩ := pM_keys l i
    cases hx : l[i]? with
    | none =>
      unfold pM; rw [hx, List.take_add_one, hx]
      simp only [Option.toList_none, List.append_nil]
      exact ⟨h1, h2⟩
    | some x =>
      rw [pM_succ hx]
      refine ⟨h1.put _ _, fun y hy => ?_⟩
      rw [alPut_keys]
      rw [List.take_add_one, hx] at hy
      rcases List.mem_append.1 hy with hy | hy
      · have := h2 y hy
        split
        · exact this
        · exact List.mem_append_left _ this
      · simp at hy
        subst hy
        split
        · rename_i hm; exact hm
        · simp
def flB (mo : Int) (x : Ord) : Bool := decide (x.f ≤ mo) && decide (0 < x.m)
/-- The map of numbers that are open. -/
def qM (l : List Ord) (mo kn : Int) : Nat → List (Int × Bool)
  | 0 => []
  | i + 1 => match l[i]? with
    | some x => if x.k ≤ kn then alPut x.n (flB mo x) (qM l mo kn i) else qM l mo kn i
    | none => qM l mo kn i
theorem qM_in {l : List Ord} {mo kn : Int} {i : Nat} {x : Ord} (h : l[i]? = some x) (hk : x.k ≤ kn) : qM l mo kn (i + 1) = alPut x.n (flB mo x) (qM l mo kn i) := by
  conv => lhs; unfold qM
  rw [h]; exact if_pos hk
theorem qM_out {l : List Ord} {mo kn : Int} {i : Nat} {x : Ord} (h : l[i]? = some x) (hk : ¬ x.k ≤ kn) : qM l mo kn (i + 1) = qM l mo kn i := by
  conv => lhs; unfold qM
  rw [h]; exact if_neg hk
theorem alPut_map (mo : Int) (a : Int) (v : Ord) : ∀ m : List (Int × Ord), alPut a (flB mo v) (m.map fun q => (q.1, flB mo q.2)) = (alPut a v m).map fun q => (q.1, flB mo q.2)
  | [] => rfl
  | q :: m => by
    simp only [List.map_cons, alPut]
    split
    · rfl
    · rw [List.map_cons, alPut_map mo a v m]
theorem qM_lM (l : List Ord) (mo kn : Int) : ∀ i, qM l mo kn i = (lM l kn i).map fun q => (q.1, flB mo q.2)
  | 0 => rfl
  | i + 1 => by
    have ih := qM_lM l mo kn i
    cases hx : l[i]? with
    | none => rw [lM_none hx, ← ih]; conv => lhs; unfold qM; rw [hx]
    | some x =>
      by_cases hk : x.k ≤ kn
      · rw [qM_in hx hk, lM_in hx hk, ih, alPut_map]
      · rw [qM_out hx hk, lM_out hx hk, ih]
theorem q_count (mo : Int) : ∀ m : List (Int × Ord), ((m.map fun q => (q.1, flB mo q.2)).filter (·.2)).length = ((m.map Prod.snd).filter (flB mo)).length
  | [] => rfl
  | q :: m => by
    have ih := q_count mo m
    simp only [List.map_cons, List.filter_cons]
    split <;> simp_all
theorem q_len (l : List Ord) (mo kn : Int) (i : Nat) : (qM l mo kn i).length ≤ i := by rw [qM_lM, List.length_map]; exact lM_len l kn i
def sumF (f : ByteArray → Nat) : List (ByteArray × Bool) → Nat
  | [] => 0
  | q :: m => f q.1 + sumF f m
theorem sumF_perm (f : ByteArray → Nat) {a b : List (ByteArray × Bool)} (h : a.Perm b) : sumF f a = sumF f b := by
  induction h with
  | nil => rfl
  | cons x _ ih => simp only [sumF, ih]
  | swap x y l => simp only [sumF]; omega
  | trans _ _ h1 h2 => rw [h1, h2]
theorem sumF_add (f g : ByteArray → Nat) : ∀ m, sumF (fun p => f p + g p) m = sumF f m + sumF g m
  | [] => rfl
  | q :: m => by simp only [sumF, sumF_add f g m]; omega
theorem sumF_zero : ∀ m, sumF (fun _ => 0) m = 0
  | [] => rfl
  | q :: m => by simp only [sumF, sumF_zero m]
theorem sumF_off (p0 : ByteArray) : ∀ m : List (ByteArray × Bool), p0 ∉ m.map Prod.fst → sumF (fun p => if p0 = p then 1 else 0) m = 0
  | [], _ => rfl
  | q :: m, h => by
    simp only [List.map_cons, List.mem_cons, not_or] at h
    simp only [sumF, sumF_off p0 m h.2, if_neg h.1]
theorem sumF_one (p0 : ByteArray) : ∀ m : List (ByteArray × Bool), Keys m → p0 ∈ m.map Prod.fst → sumF (fun p => if p0 = p then 1 else 0) m = 1
  | [], _, h => by simp at h
  | q :: m, hk, h => by
    have hk' : (q.1 :: m.map Prod.fst).Nodup := hk
    obtain ⟨h1, h2⟩ := List.nodup_cons.1 hk'
    simp only [List.map_cons, List.mem_cons] at h
    simp only [sumF]
    by_cases e : p0 = q.1
    · subst e; simp only [if_true]; rw [sumF_off _ m h1]
    · rw [if_neg e, sumF_one p0 m h2 (h.resolve_left e)]
theorem sum_all (g : Ord → Bool) {m : List (ByteArray × Bool)} (hk : Keys m) : ∀ L : List Ord, (∀ x ∈ L, x.p ∈ m.map Prod.fst) → sumF (fun p => (L.filter fun x => g x && decide (x.p = p)).length) m = (L.filter g).length
  | [], _ => sumF_zero m
  | x :: L, h => by
    have ih := sum_all g hk L fun y hy => h y (List.mem_cons_of_mem _ hy)
    have hx := sumF_one x.p m hk (h x List.mem_cons_self)
    cases hg : g x with
    | false =>
      have : (fun p => ((x :: L).filter fun x => g x && decide (x.p = p)).length) = fun p => (L.filter fun x => g x && decide (x.p = p)).length := by
        funext p; rw [List.filter_cons, hg]; simp
      rw [this, ih, List.filter_cons, hg]; simp
    | true =>
      have : (fun p => ((x :: L).filter fun x => g x && decide (x.p = p)).length) = fun p => (if x.p = p then 1 else 0) + (L.filter fun x => g x && decide (x.p = p)).length := by
        funext p
        rw [List.filter_cons, hg]
        by_cases e : x.p = p
        · simp [e]; omega
        · simp [e]
      rw [this, sumF_add, hx, ih, List.filter_cons, hg]
      simp; omega
theorem mem_lM {l : List Ord} {kn : Int} {x : Ord} {i : Nat} : x ∈ (lM l kn i).map Prod.snd ↔ alFind x.n (lM l kn i) = some x := by
  obtain ⟨hk, hm⟩ := lM_keys l kn i
  constructor
  · intro h
    obtain ⟨q, hq, rfl⟩ := List.mem_map.1 h
    exact mem_alFind hk (by rw [← (hm q hq).1]; exact hq)
  · intro h
    exact List.mem_map.2 ⟨_, alFind_mem h, rfl⟩
theorem open_count {l : List Ord} {p : ByteArray} {mo kn : Int} (hv : validB l = true) : (openL l p mo kn).length = (((lM l kn l.length).map Prod.snd).filter fun x => flB mo x && decide (x.p = p)).length := by
  have hnd : ((((lM l kn l.length).map Prod.snd).filter fun x => flB mo x && decide (x.p = p)).map (·.n)).Nodup :=
    (snd_nodup (lM_keys l kn l.length).1 fun q hq => ((lM_keys l kn l.length).2 q hq).1).sublist (List.Sublist.map _ List.filter_sublist)
  refine Eq.trans (congrArg List.length ?_) (sortO_perm _).length_eq
  refine sorted_ext (openL_sorted _ _ _ _) (sortO_sorted hnd) fun x => ?_
  rw [(sortO_perm _).mem_iff, List.mem_filter, mem_lM]
  constructor
  · intro h
    have h1 := openL_mem h
    have h2 := form_m (valid_form hv h1.1)
    refine ⟨open_last hv h, ?_⟩
    unfold flB
    rw [decide_eq_true h1.2.2.2.1, decide_eq_true (show 0 < x.m by have := h1.2.2.2.2; omega), decide_eq_true h1.2.1]; rfl
  · rintro ⟨h1, h2⟩
    unfold flB at h2
    simp only [Bool.and_eq_true, decide_eq_true_eq] at h2
    exact last_open (q := (x.n, x)) hv (alFind_mem h1) h2.2 h2.1.1 h2.1.2
theorem person_sum {l : List Ord} {mo kn : Int} (hv : validB l = true) : sumF (fun p => (openL l p mo kn).length) (pM l l.length) = ((qM l mo kn l.length).filter (·.2)).length := by
  have : (fun p => (openL l p mo kn).length) = fun p => (((lM l kn l.length).map Prod.snd).filter fun x => flB mo x && decide (x.p = p)).length := funext fun p => open_count hv
  rw [this, qM_lM, q_count]
  refine sum_all (flB mo) (pM_keys l l.length).1 _ fun x hx => ?_
  obtain ⟨q, hq, rfl⟩ := List.mem_map.1 hx
  exact (pM_keys l l.length).2 _ ((lM_keys l kn l.length).2 q hq).2.1
theorem sum_step (f : ByteArray → Nat) {rest : List (ByteArray × Bool)} {i : Nat} {q : ByteArray × Bool} (h : rest[i]? = some q) : sumF f rest = f q.1 + sumF f (rest.eraseIdx i) := (sumF_perm f (erase_perm h)).symm
theorem cnt_step {rest : List (Int × Bool)} {i : Nat} {q : Int × Bool} (h : rest[i]? = some q) : (rest.filter (·.2)).length = (if q.2 then 1 else 0) + ((rest.eraseIdx i).filter (·.2)).length := by
  have := ((erase_perm h).filter (·.2)).length_eq
  rw [← this, List.filter_cons]
  split
  · rw [List.length_cons]; omega
  · omega
end WageOrd
