/-
  A span that is divided: plain laws; parts of a slice of spans.
-/
import Derived.Test.YtngbkpplkkpagaaFar
namespace Go.Proofs.Ytngbkpplkkpagaa
open Go.RowKit Go.Proofs WageMem WageSpan

def parted (a : List Sp) (k : Nat) (m s1 s2 : Int) : List Sp := (a.take k ++ [(m, s2), (s1, m)]) ++ a.drop (k + 1)
theorem split_at {a : List Sp} {k : Nat} {s : Sp} (h : a[k]? = some s) : a = (a.take k ++ [s]) ++ a.drop (k + 1) := by
  obtain ⟨hl, rfl⟩ := List.getElem?_eq_some_iff.1 h
  rw [List.take_append_getElem hl, List.take_append_drop]
theorem parted_has {a : List Sp} {k : Nat} {s1 s2 m : Int} (h : a[k]? = some (s1, s2)) (hp : properB (s1, s2) = true) (h1 : s1 < m) (h2 : m < s2) (n : Int) : hasB (parted a k m s1 s2) n = hasB a n := by
  have ps := proper_iff.1 hp
  simp only at ps
  have e : hasB [(m, s2), (s1, m)] n = hasB [(s1, s2)] n := by
    rw [has_cons, has_cons, has_nil, has_cons, has_nil, Bool.or_false, Bool.or_false, Bool.eq_iff_iff, Bool.or_eq_true, in_iff, in_iff, in_iff, proper_iff, proper_iff, proper_iff]
    simp only
    omega
  unfold parted
  conv => rhs; rw [split_at h]
  rw [has_append, has_append, e, has_append, has_append]
theorem parted_not {a : List Sp} {k : Nat} {s1 s2 m : Int} (h1 : s1 < m) (h2 : m < s2) : decide (nrm (parted a k m s1 s2) = parted a k m s1 s2) = false := by
  rw [decide_eq_false_iff_not, nrm_iff]
  intro hn
  have h := hn.2
  unfold parted at h
  have h := (List.pairwise_append.1 h).1
  have h := (List.pairwise_append.1 h).2.1
  have := (List.pairwise_cons.1 h).1 (s1, m) List.mem_cons_self
  simp only at this
  omega
theorem parted_eqs {a : List Sp} {k : Nat} {s1 s2 m : Int} (h : a[k]? = some (s1, s2)) (hp : properB (s1, s2) = true) (h1 : s1 < m) (h2 : m < s2) (b : List Sp) :
    nrm (parted a k m s1 s2) = nrm a ∧ uni (parted a k m s1 s2) b = uni a b ∧ meet b (parted a k m s1 s2) = meet b a ∧ minus (parted a k m s1 s2) b = minus a b ∧ minus b (parted a k m s1 s2) = minus b a := by
  have e := parted_has h hp h1 h2
  exact ⟨(nrm_normal _).ext (nrm_normal _) fun n => by rw [nrm_has, nrm_has, e], (uni_normal _ _).ext (uni_normal _ _) fun n => by rw [uni_has, uni_has, e], (meet_normal _ _).ext (meet_normal _ _) fun n => by rw [meet_has, meet_has, e],
    (minus_normal _ _).ext (minus_normal _ _) fun n => by rw [minus_has, minus_has, e], (minus_normal _ _).ext (minus_normal _ _) fun n => by rw [minus_has, minus_has, e]⟩
theorem parted_at {a : List Sp} {k : Nat} {s1 s2 m : Int} (hp : properB (s1, s2) = true) (h1 : s1 < m) (h2 : m < s2) : hasB (parted a k m s1 s2) m = true ∧ hasB (parted a k m s1 s2) (m - 1) = true := by
  have ps := proper_iff.1 hp
  simp only at ps
  refine ⟨has_iff.2 ⟨(m, s2), by unfold parted; simp, in_iff.2 ⟨proper_iff.2 (by simp only; omega), by simp only; omega⟩⟩, has_iff.2 ⟨(s1, m), by unfold parted; simp, in_iff.2 ⟨proper_iff.2 (by simp only; omega), by simp only; omega⟩⟩⟩
theorem parted_len {a : List Sp} {k : Nat} {s1 s2 m : Int} (hk : k < a.length) : (parted a k m s1 s2).length = a.length + 1 := by
  unfold parted
  rw [List.length_append, List.length_append, List.length_take, List.length_drop]
  simp
  omega
theorem in64_take {l : List Sp} (h : In64 l) (k : Nat) : In64 (l.take k) := fun s hs => h s (List.mem_of_mem_take hs)
theorem in64_drop {l : List Sp} (h : In64 l) (k : Nat) : In64 (l.drop k) := fun s hs => h s (List.mem_of_mem_drop hs)
theorem flat_take (ss : List Sp) (k : Nat) : flat (ss.take k) = (flat ss).take (k * 2) := by
  induction ss generalizing k with
  | nil => simp [flat]
  | cons s ss ih =>
    cases k with
    | zero => simp [flat]
    | succ k =>
      have e : flat (s :: ss) = .int .i64 s.1 :: .int .i64 s.2 :: flat ss := rfl
      have e2 : flat (s :: ss.take k) = .int .i64 s.1 :: .int .i64 s.2 :: flat (ss.take k) := rfl
      rw [e, show (k + 1) * 2 = k * 2 + 1 + 1 by omega, List.take_succ_cons, List.take_succ_cons, List.take_succ_cons, e2, ih]
theorem flat_drop (ss : List Sp) (k : Nat) : flat (ss.drop k) = (flat ss).drop (k * 2) := by
  induction ss generalizing k with
  | nil => simp [flat]
  | cons s ss ih =>
    cases k with
    | zero => simp
    | succ k =>
      have e : flat (s :: ss) = .int .i64 s.1 :: .int .i64 s.2 :: flat ss := rfl
      rw [e, show (k + 1) * 2 = k * 2 + 1 + 1 by omega, List.drop_succ_cons, List.drop_succ_cons, List.drop_succ_cons, ih]
theorem Spans.take_ {w : World} {A : Option Addr} {n c : Nat} {ss : List Sp} (h : Spans w A n c ss) {k : Nat} (hk : k ≤ n) : Spans w A k c (ss.take k) := by
  obtain ⟨h1, ⟨h2, h3, h4, h5, h6⟩, h7⟩ := h
  refine ⟨by rw [List.length_take, h1]; omega, ⟨by omega, h3, by rw [flat_len, List.length_take, h1]; omega, fun hne => ?_, fun hA => ⟨by have := (h6 hA).1; omega, (h6 hA).2⟩⟩, in64_take h7 k⟩
  rw [flat_take] at hne ⊢
  obtain ⟨b, o, e, hc⟩ := h5 (by intro h0; rw [h0] at hne; simp at hne)
  refine ⟨b, o, e, fun j u hu => hc j u ?_⟩
  rw [List.getElem?_take] at hu
  split at hu
  · exact hu
  · cases hu
/-- Where the rest of a slice of spans begins. -/
theorem Spans.drop_ {w : World} {b o n c : Nat} {ss : List Sp} (h : Spans w (some ⟨b, o, none⟩) n c ss) {k : Nat} (hk : k ≤ n) : Spans w (some ⟨b, o + k * 2, none⟩) (n - k) (c - k) (ss.drop k) := by
  obtain ⟨h1, ⟨h2, h3, h4, h5, h6⟩, h7⟩ := h
  refine ⟨by rw [List.length_drop, h1], ⟨by omega, by omega, by rw [flat_len, List.length_drop, h1], fun hne => ?_, fun hA => by cases hA⟩, in64_drop h7 k⟩
  rw [flat_drop] at hne ⊢
  obtain ⟨b', o', e, hc⟩ := h5 (by intro h0; rw [h0] at hne; simp at hne)
  injection e with e
  injection e with e1 e2
  subst e1 e2
  refine ⟨b, o + k * 2, rfl, fun j u hu => ?_⟩
  rw [List.getElem?_drop] at hu
  have := hc _ _ hu
  rwa [Nat.add_assoc]
theorem own_empty {W : World} {H base : Nat} {e : TypeId} {size : Nat} (h : W.heap[H]? = some (.cells #[] e (0, 0))) (hb : base ≤ H) : W.ownsRow base e size (.slice (some ⟨H, 0, none⟩) 0 0) 0 [] :=
  ⟨by simp, .inr ⟨H, 0, #[], rfl, hb, h, Nat.le_refl _, Nat.zero_le _, by simp, by simp⟩⟩
theorem blk_new2 (w : World) (o : Obj) (cs : Array Value) (t : TypeId) : ((w.alloc o).alloc (.cells cs t)).heap[w.heap.size + 1]? = some (.cells cs t (0, 0)) := by
  have := heap_alloc_new (w.alloc o) (.cells cs t); rwa [World.size_alloc] at this
theorem blk_new1 (w : World) (o : Obj) (cs : Array Value) (t : TypeId) : ((w.alloc (.cells cs t)).alloc o).heap[w.heap.size]? = some (.cells cs t (0, 0)) :=
  (Below.heap_alloc _ _ _ (by simp)).trans (heap_alloc_new w _)
theorem blk_sl {w : World} {g : Nat} {t : TypeId} (size n : Nat) (cs : Array Value) (xs : List Value) (h : cs = xs.toArray) (hn : xs.length = n * size) (hm : n ≤ 1000) (hb : w.heap[g]? = some (.cells cs t (0, 0))) : Sl w size (some ⟨g, 0, none⟩) n n xs := by
  subst h
  refine ⟨Nat.le_refl _, by unfold maxLen; omega, hn, fun _ => ⟨g, 0, rfl, fun j u hu => ?_⟩, fun h => by cases h⟩
  rw [blk_cell hb, Nat.zero_add]
  simpa using hu
end Go.Proofs.Ytngbkpplkkpagaa
