/-
  What the laws of settle say of entries, in plain words: sending and applying append.
-/
import Derived.Test.YtaocjobbfcfleaaLawQ
namespace WageSet
open WageOrd WageMap

def payP (ps : List Pay) (id : Int) : Pay := (findP ps id).getD ⟨0, ByteArray.empty, 0, 0⟩
def ents (d : Desk) : List Ent := (evs d).map entOf
theorem ents_form (d : Desk) : ents d = (paysOf d).map sentE ++ (d.an.filter movesB).map fun a => answE (payP (paysOf d) a.id) a := by
  unfold ents evs sentEv answEv paysOf payAt payP
  rw [List.take_length, List.take_length]
  simp only [List.map_append, List.map_map]
  rfl
theorem entL_sort {d : Desk} (h : validB d = true) : entL d = sortE (ents d) := by unfold entL ents; rw [h]; rfl
theorem sortedE_sub : ∀ {k l : List Ent}, SortedE l → SortedE k → (∀ x ∈ l, x ∈ k) → l.Sublist k
  | [], [], _, _, _ => List.Sublist.slnil
  | [], x :: l, _, _, h => absurd (h x List.mem_cons_self) (by simp)
  | y :: k, [], _, _, _ => List.nil_sublist _
  | y :: k, x :: l, hl, hk, h => by
    obtain ⟨hl1, hl2⟩ := List.pairwise_cons.1 hl
    obtain ⟨hk1, hk2⟩ := List.pairwise_cons.1 hk
    by_cases e : x = y
    · subst e
      refine List.Sublist.cons_cons _ (sortedE_sub hl2 hk2 fun z hz => ?_)
      rcases List.mem_cons.1 (h z (List.mem_cons_of_mem _ hz)) with h' | h'
      · exact absurd (h' ▸ hl1 z hz) ltE.irrefl
      · exact h'
    · have hx : x ∈ k := (List.mem_cons.1 (h x List.mem_cons_self)).resolve_left e
      have hyx := hk1 x hx
      refine List.Sublist.cons _ (sortedE_sub hl hk2 fun z hz => ?_)
      rcases List.mem_cons.1 (h z hz) with h' | h'
      · rcases List.mem_cons.1 hz with hz' | hz'
        · exact absurd (hz'.symm.trans h') e
        · exact absurd (h' ▸ hl1 z hz') hyx.asymm
      · exact h'
theorem ent_sub {d x : Desk} (hd : validB d = true) (hx : validB x = true) (h : ∀ e ∈ ents d, e ∈ ents x) : goK (entL d) (entL x) 0 = (entL d).length := by
  refine goK_sub _ _ 0 (Nat.zero_le _) ?_
  rw [List.drop_zero, entL_sort hd, entL_sort hx]
  refine sortedE_sub (sortE_sorted (evs_nodup hd)) (sortE_sorted (evs_nodup hx)) fun e he => ?_
  rw [(sortE_perm _).mem_iff] at he ⊢
  exact h e he
theorem ent_len {d : Desk} (hd : validB d = true) : (entL d).length = (ents d).length := by rw [entL_sort hd]; exact (sortE_perm _).length_eq
theorem payP_append {ps : List Pay} {q : Pay} {id : Int} {p : Pay} (h : findP ps id = some p) : payP (ps ++ [q]) id = payP ps id := by
  unfold payP; rw [findP_append h, h]
theorem ans_find {d : Desk} (hv : validB d = true) {a : Ans} (ha : a ∈ d.an) : ∃ p, findP (paysOf d) a.id = some p ∧ p.d ≤ a.d := by
  have h1 := ((stand_mem (valid_parts hv).2.2.1).2.1 a ha).2
  unfold dayOk at h1
  cases hf : findP (paysOf d) a.id with
  | none => rw [hf] at h1; cases h1
  | some p => rw [hf] at h1; exact ⟨p, rfl, of_decide_eq_true h1⟩
theorem send_ents {d : Desk} {p : Pay} (h : sendE d p = 0) : ents (sendD d p) = (paysOf d).map sentE ++ sentE p :: (d.an.filter movesB).map fun a => answE (payP (paysOf d) a.id) a := by
  obtain ⟨hv, _, _, _, e⟩ := send_cases h
  rw [e, ents_form, send_paysOf, List.map_append, List.append_assoc]
  congr 1
  show sentE p :: _ = _
  congr 1
  refine List.map_congr_left fun a ha => ?_
  obtain ⟨q, hq, _⟩ := ans_find hv (List.mem_filter.1 ha).1
  show answE (payP (paysOf d ++ [p]) a.id) a = _
  rw [payP_append hq]
theorem send_app {d : Desk} {p : Pay} (h : sendE d p = 0) : goK (entL d) (entL (sendD d p)) 0 = (entL d).length ∧ (entL (sendD d p)).length = (entL d).length + 1 := by
  have hv := (send_cases h).1
  have hx := send_valid h
  constructor
  · refine ent_sub hv hx fun e he => ?_
    rw [send_ents h]
    rw [ents_form] at he
    rcases List.mem_append.1 he with he | he
    · exact List.mem_append_left _ he
    · exact List.mem_append_right _ (List.mem_cons_of_mem _ he)
  · rw [ent_len hv, ent_len hx, send_ents h, ents_form]
    simp only [List.length_append, List.length_cons]; omega
theorem apply_app {d : Desk} {a : Ans} (h : applyE d a = 0) : goK (entL d) (entL (applyD d a)) 0 = (entL d).length ∧ (entL (applyD d a)).length ≤ (entL d).length + 1 := by
  obtain ⟨hv, _, h1⟩ := app_cases h
  obtain ⟨hx, hp, hm, _, _⟩ := app_res h
  constructor
  · refine ent_sub hv hx fun e he => ?_
    rw [ents_form] at he ⊢
    rw [hp]
    rcases List.mem_append.1 he with he | he
    · exact List.mem_append_left _ he
    · refine List.mem_append_right _ ?_
      obtain ⟨b, hb, rfl⟩ := List.mem_map.1 he
      obtain ⟨hb1, hb2⟩ := List.mem_filter.1 hb
      exact List.mem_map.2 ⟨b, List.mem_filter.2 ⟨(hm b).2 (.inr hb1), hb2⟩, rfl⟩
  · rw [ent_len hv, ent_len hx, ents_form, ents_form, hp]
    simp only [List.length_append, List.length_map]
    rcases h1 with ⟨_, e⟩ | ⟨_, _, _, e⟩
    · rw [e]; omega
    · rw [e]
      have : ((mkD (paysOf d) (insA a d.an)).an.filter movesB).length ≤ (d.an.filter movesB).length + 1 := by
        show ((insA a d.an).filter movesB).length ≤ _
        rw [((insA_perm a d.an).filter movesB).length_eq, List.filter_cons]
        split
        · rw [List.length_cons]; omega
        · omega
      omega
theorem ent_len_le {d : Desk} (hd : validB d = true) : (entL d).length ≤ d.ss.length + d.an.length := by
  rw [ent_len hd, ents_form, List.length_append, List.length_map, List.length_map, paysOf_len]
  have := List.length_filter_le movesB d.an
  omega
end WageSet
