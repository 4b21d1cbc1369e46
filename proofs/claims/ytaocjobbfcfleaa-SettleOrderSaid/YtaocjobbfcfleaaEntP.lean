/-
  Entries in plain words: events, and their order.
-/
import Derived.Test.YtaocjobbfcfleaaDeskP
namespace WageSet
open WageOrd WageMap

def ltE (a b : Ent) : Prop := a.b < b.b ∨ (a.b = b.b ∧ a.id < b.id)
def ltEB (a b : Ent) : Bool := decide (a.b < b.b) || (decide (a.b = b.b) && decide (a.id < b.id))
theorem ltEB_iff {a b : Ent} : ltEB a b = true ↔ ltE a b := by unfold ltEB ltE; simp
theorem ltE.trans {a b c : Ent} (h : ltE a b) (k : ltE b c) : ltE a c := by unfold ltE at *; omega
theorem ltE.irrefl {a : Ent} : ¬ ltE a a := by unfold ltE; omega
theorem ltE.asymm {a b : Ent} (h : ltE a b) : ¬ ltE b a := by unfold ltE at *; omega
theorem ltE.total {a b : Ent} (h : a.id ≠ b.id) : ltE a b ∨ ltE b a := by unfold ltE; omega
def SortedE (l : List Ent) : Prop := l.Pairwise ltE
theorem sortedE_ext : ∀ {l k : List Ent}, SortedE l → SortedE k → (∀ x, x ∈ l ↔ x ∈ k) → l = k
  | [], [], _, _, _ => rfl
  | [], y :: k, _, _, h => absurd ((h y).2 List.mem_cons_self) (by simp)
  | x :: l, [], _, _, h => absurd ((h x).1 List.mem_cons_self) (by simp)
  | x :: l, y :: k, hl, hk, h => by
    obtain ⟨hl1, hl2⟩ := List.pairwise_cons.1 hl
    obtain ⟨hk1, hk2⟩ := List.pairwise_cons.1 hk
    have hxy : x = y := by
      rcases List.mem_cons.1 ((h x).1 List.mem_cons_self) with e | hx
      · exact e
      · rcases List.mem_cons.1 ((h y).2 List.mem_cons_self) with e | hy
        · exact e.symm
        · exact absurd (hl1 y hy) (hk1 x hx).asymm
    subst hxy
    rw [sortedE_ext hl2 hk2 fun z => ?_]
    constructor
    · intro hz
      rcases List.mem_cons.1 ((h z).1 (List.mem_cons_of_mem _ hz)) with e | hz'
      · subst e; exact absurd (hl1 z hz) ltE.irrefl
      · exact hz'
    · intro hz
      rcases List.mem_cons.1 ((h z).2 (List.mem_cons_of_mem _ hz)) with e | hz'
      · subst e; exact absurd (hk1 z hz) ltE.irrefl
      · exact hz'
def insE (o : Ent) : List Ent → List Ent
  | [] => [o]
  | x :: l => if ltEB x o then x :: insE o l else o :: x :: l
def sortE : List Ent → List Ent
  | [] => []
  | x :: l => insE x (sortE l)
theorem insE_perm (o : Ent) : ∀ l, (insE o l).Perm (o :: l)
  | [] => List.Perm.refl _
  | x :: l => by
    unfold insE
    split
    · exact ((insE_perm o l).cons x).trans (List.Perm.swap o x l)
    · exact List.Perm.refl _
theorem sortE_perm : ∀ l, (sortE l).Perm l
  | [] => List.Perm.refl _
  | x :: l => (insE_perm x (sortE l)).trans ((sortE_perm l).cons x)
theorem insE_sorted {o : Ent} : ∀ {l : List Ent}, SortedE l → (∀ x ∈ l, x.id ≠ o.id) → SortedE (insE o l)
  | [], _, _ => by simp [insE, SortedE]
  | x :: l, h, hn => by
    obtain ⟨h1, h2⟩ := List.pairwise_cons.1 h
    unfold insE
    split
    · rename_i hx
      refine List.pairwise_cons.2 ⟨fun y hy => ?_, insE_sorted h2 fun y hy => hn y (List.mem_cons_of_mem _ hy)⟩
      rcases List.mem_cons.1 ((insE_perm o l).mem_iff.1 hy) with rfl | hy
      · exact ltEB_iff.1 hx
      · exact h1 y hy
    · rename_i hx
      have hox : ltE o x := by
        rcases ltE.total (hn x List.mem_cons_self) with h' | h'
        · exact absurd (ltEB_iff.2 h') hx
        · exact h'
      refine List.pairwise_cons.2 ⟨fun y hy => ?_, h⟩
      rcases List.mem_cons.1 hy with rfl | hy
      · exact hox
      · exact hox.trans (h1 y hy)
theorem sortE_sorted : ∀ {l : List Ent}, (l.map (·.id)).Nodup → SortedE (sortE l)
  | [], _ => List.Pairwise.nil
  | x :: l, h => by
    simp only [List.map_cons, List.nodup_cons] at h
    refine insE_sorted (sortE_sorted h.2) fun y hy e => ?_
    exact h.1 (e ▸ List.mem_map.2 ⟨y, (sortE_perm l).mem_iff.1 hy, rfl⟩)
/-- What a sort by the closure makes of a list whose numbers differ. -/
theorem sortE_eq {E d : List Ent} (hd : d.Perm E) (hs : d.Pairwise fun a b => ¬ ltE b a) (hn : (E.map (·.id)).Nodup) : d = sortE E := by
  have hnd : (d.map (·.id)).Nodup := (hd.map _).nodup_iff.2 hn
  refine sortedE_ext ?_ (sortE_sorted hn) fun x => ?_
  · have h2 : d.Pairwise fun a b => a.id ≠ b.id := List.pairwise_map.1 hnd
    exact (hs.and h2).imp fun ⟨h3, h4⟩ => (ltE.total h4).resolve_right h3
  · rw [(sortE_perm _).mem_iff]; exact hd.mem_iff

/-! ### events -/
inductive Ev where
  | sent (p : Pay)
  | answ (p : Pay) (a : Ans)
def sentE (p : Pay) : Ent := ⟨2 * p.id, p.acc, transit, p.c, p.d, p.d⟩
def answE (p : Pay) (a : Ans) : Ent :=
  if a.k = 2 then ⟨2 * a.q + 1, transit, bank, a.c, a.d, a.d⟩
  else if a.k = 3 then ⟨2 * a.q + 1, transit, p.acc, p.c, a.d, a.d⟩
  else if a.k = 4 then ⟨2 * a.q + 1, bank, p.acc, a.c, a.d, a.d⟩
  else ⟨2 * a.q + 1, ByteArray.empty, ByteArray.empty, a.c, a.d, a.d⟩
def entOf : Ev → Ent
  | .sent p => sentE p
  | .answ p a => answE p a
def payAt (d : Desk) (id : Int) : Pay := (findP (paysOf d) id).getD ⟨0, ByteArray.empty, 0, 0⟩
def movesB (a : Ans) : Bool := a.k != 1
def sentEv (d : Desk) (k : Nat) : List Ev := (d.ss.take k).map fun s => .sent s.p
def answEv (d : Desk) (k : Nat) : List Ev := ((d.an.take k).filter movesB).map fun a => .answ (payAt d a.id) a
def evs (d : Desk) : List Ev := sentEv d d.ss.length ++ answEv d d.an.length
def entL (d : Desk) : List Ent := if validB d then sortE ((evs d).map entOf) else []
theorem sentEv_succ {d : Desk} {k : Nat} {s : Sta} (h : d.ss[k]? = some s) : sentEv d (k + 1) = sentEv d k ++ [.sent s.p] := by
  unfold sentEv; rw [List.take_add_one, h]; simp
theorem answEv_in {d : Desk} {k : Nat} {a : Ans} (h : d.an[k]? = some a) (hk : movesB a = true) : answEv d (k + 1) = answEv d k ++ [.answ (payAt d a.id) a] := by
  unfold answEv; rw [List.take_add_one, h, List.filter_append, List.map_append]; simp [hk]
theorem answEv_out {d : Desk} {k : Nat} {a : Ans} (h : d.an[k]? = some a) (hk : movesB a = false) : answEv d (k + 1) = answEv d k := by
  unfold answEv; rw [List.take_add_one, h, List.filter_append, List.map_append]; simp [hk]
theorem sentEv_len (d : Desk) (k : Nat) : (sentEv d k).length ≤ k := by unfold sentEv; rw [List.length_map, List.length_take]; omega
theorem answEv_len (d : Desk) (k : Nat) : (answEv d k).length ≤ k := by
  unfold answEv; rw [List.length_map]; exact Nat.le_trans (List.length_filter_le _ _) (by rw [List.length_take]; omega)
theorem answE_id (p : Pay) (a : Ans) : (answE p a).id = 2 * a.q + 1 := by
  unfold answE
  split
  · rfl
  · split
    · rfl
    · split <;> rfl
theorem sortQ_of' {ps : List Pay} {zs : List Ans} (h : asB ps zs zs.length = true) : ∀ (s t : Nat) (x y : Ans), s < t → zs[s]? = some x → zs[t]? = some y → x.q < y.q := by
  intro s t
  induction t with
  | zero => intro x y hst; omega
  | succ t ih =>
    intro x y hst hx hy
    have ht := (List.getElem?_eq_some_iff.1 hy).1
    have hp := (asB_at h ht hy).2.2
    obtain ⟨z, hz⟩ : ∃ z, zs[t]? = some z := ⟨_, List.getElem?_eq_getElem (by omega)⟩
    unfold prevQ at hp
    simp only [hz, decide_eq_true_eq] at hp
    rcases Nat.lt_or_eq_of_le (Nat.lt_succ_iff.1 hst) with h1 | h1
    · exact Int.lt_trans (ih x z h1 hx hz) hp
    · subst h1
      rw [hx] at hz; injection hz with hz; subst hz
      exact hp
theorem evs_nodup {d : Desk} (h : validB d = true) : (((evs d).map entOf).map (·.id)).Nodup := by
  obtain ⟨_, _, h3, h4⟩ := valid_parts h
  obtain ⟨h5, h6, _⟩ := stand_parts h3
  have h1 : ((evs d).map entOf).map (·.id) = (d.ss.map fun s => 2 * s.p.id) ++ ((d.an.filter movesB).map fun a => 2 * a.q + 1) := by
    unfold evs sentEv answEv
    rw [List.take_length, List.take_length]
    simp only [List.map_append, List.map_map]
    congr 1
    exact List.map_congr_left fun a _ => answE_id _ a
  rw [h1, List.nodup_append]
  refine ⟨?_, ?_, ?_⟩
  · have hp : (d.ss.map fun s => 2 * s.p.id).Pairwise (· ≠ ·) := by
      rw [List.pairwise_map, List.pairwise_iff_getElem]
      intro i j hi hj hij
      have := ids_ne h5 (i := i) (j := j) (p := d.ss[i].p) (q := d.ss[j].p) (by unfold paysOf; simpa using hi) (by unfold paysOf; simpa using hj) (by unfold paysOf; simp [hi]) (by unfold paysOf; simp [hj]) (by omega)
      omega
    exact hp
  · have hq : d.an.Pairwise fun a b => a.q ≠ b.q := by
      rw [List.pairwise_iff_getElem]
      intro i j hi hj hij
      have := sortQ_of' h6 i j _ _ hij (List.getElem?_eq_getElem hi) (List.getElem?_eq_getElem hj)
      omega
    have hp : ((d.an.filter movesB).map fun a => 2 * a.q + 1).Pairwise (· ≠ ·) := by
      rw [List.pairwise_map]
      exact (hq.sublist List.filter_sublist).imp fun h => by omega
    exact hp
  · intro x hx y hy
    obtain ⟨s, _, rfl⟩ := List.mem_map.1 hx
    obtain ⟨a, _, rfl⟩ := List.mem_map.1 hy
    omega
theorem payAt_of {d : Desk} {id : Int} {p : Pay} (h : findP (paysOf d) id = some p) : payAt d id = p := by unfold payAt; rw [h]; rfl
end WageSet
