/-
  The reference's Open in plain words; its order of service.
-/
import Derived.Test.YtjpnodmcglcihaaRRec
import Derived.Test.YtjpnodmcglcihaaNumP
namespace WageOrd
open WageMap
/-- No later order that is known bears the number. -/
def NoLater (l : List Ord) (kn : Int) (j : Nat) (x : Ord) : Prop := ∀ m y, j < m → l[m]? = some y → y.k ≤ kn → y.n ≠ x.n
/-- What the reference has gathered after some rounds. -/
def OpI (l : List Ord) (p : ByteArray) (mo kn : Int) (i : Nat) (E : List Ord) : Prop :=
  E.length ≤ i ∧ SortedO E ∧ ∀ x, x ∈ E ↔ ∃ j, j < i ∧ l[j]? = some x ∧ x.p = p ∧ x.k ≤ kn ∧ opB mo x = true ∧ NoLater l kn j x
theorem opI_zero {l : List Ord} {p : ByteArray} {mo kn : Int} : OpI l p mo kn 0 [] := ⟨Nat.le_refl _, List.Pairwise.nil, fun x => ⟨fun h => by simp at h, fun ⟨j, hj, _⟩ => absurd hj (by omega)⟩⟩
theorem opI_skip {l : List Ord} {p : ByteArray} {mo kn : Int} {i : Nat} {E : List Ord} {x : Ord} (h : OpI l p mo kn i E) (hx : l[i]? = some x) (hn : ¬ (x.p = p ∧ x.k ≤ kn ∧ opB mo x = true ∧ NoLater l kn i x)) : OpI l p mo kn (i + 1) E := by
  refine ⟨Nat.le_succ_of_le h.1, h.2.1, fun y => ?_⟩
  rw [h.2.2 y]
  constructor
  · rintro ⟨j, hj, r⟩; exact ⟨j, by omega, r⟩
  · rintro ⟨j, hj, r⟩
    rcases Nat.lt_succ_iff_lt_or_eq.1 hj with h1 | rfl
    · exact ⟨j, h1, r⟩
    · rw [hx] at r
      obtain ⟨e, r⟩ := r
      injection e with e
      subst e
      exact absurd r hn
theorem opI_take {l : List Ord} {p : ByteArray} {mo kn : Int} {i : Nat} {E : List Ord} {x : Ord} (h : OpI l p mo kn i E) (hx : l[i]? = some x) (h1 : x.p = p) (h2 : x.k ≤ kn) (h3 : opB mo x = true) (h4 : NoLater l kn i x) : OpI l p mo kn (i + 1) (insO x E) := by
  refine ⟨?_, insO_sorted h.2.1 fun y hy e => ?_, fun y => ?_⟩
  · rw [(insO_perm x E).length_eq, List.length_cons]; have := h.1; omega
  · obtain ⟨j, hj, _, _, _, _, hl⟩ := (h.2.2 y).1 hy
    exact hl i x hj hx h2 e.symm
  · rw [(insO_perm x E).mem_iff, List.mem_cons, h.2.2 y]
    constructor
    · rintro (rfl | ⟨j, hj, r⟩)
      · exact ⟨i, by omega, hx, h1, h2, h3, h4⟩
      · exact ⟨j, by omega, r⟩
    · rintro ⟨j, hj, r⟩
      rcases Nat.lt_succ_iff_lt_or_eq.1 hj with h5 | rfl
      · exact .inr ⟨j, h5, r⟩
      · rw [hx] at r
        obtain ⟨e, r⟩ := r
        injection e with e
        exact .inl e.symm
theorem find_cM {l : List Ord} {p : ByteArray} {kn : Int} {x : Ord} : ∀ i, alFind x.n (cM l p kn i) = some x ↔ ∃ j, j < i ∧ l[j]? = some x ∧ x.p = p ∧ x.k ≤ kn ∧ ∀ m y, j < m → m < i → l[m]? = some y → y.p = p → y.k ≤ kn → y.n ≠ x.n
  | 0 => by simp [cM, alFind]
  | i + 1 => by
    have ih := @find_cM l p kn x i
    cases hz : l[i]? with
    | none =>
      rw [cM_none hz, ih]
      constructor
      · rintro ⟨j, hj, a, b, c, d⟩
        exact ⟨j, by omega, a, b, c, fun m y h1 h2 h3 => by
          rcases Nat.lt_succ_iff_lt_or_eq.1 h2 with h4 | rfl
          · exact d m y h1 h4 h3
          · rw [hz] at h3; cases h3⟩
      · rintro ⟨j, hj, a, b, c, d⟩
        rcases Nat.lt_succ_iff_lt_or_eq.1 hj with h4 | rfl
        · exact ⟨j, h4, a, b, c, fun m y h1 h2 => d m y h1 (by omega)⟩
        · rw [hz] at a; cases a
    | some z =>
      by_cases hc : z.p = p ∧ z.k ≤ kn
      · rw [cM_yes hz hc.1 hc.2]
        by_cases e : x.n = z.n
        · rw [e, alFind_put_self]
          constructor
          · intro h
            injection h with h
            subst h
            exact ⟨i, by omega, hz, hc.1, hc.2, fun m y h1 h2 => absurd h1 (by omega)⟩
          · rintro ⟨j, hj, a, b, c, d⟩
            rcases Nat.lt_succ_iff_lt_or_eq.1 hj with h4 | rfl
            · exact absurd rfl (d i z h4 (by omega) hz hc.1 hc.2)
            · rw [← a, hz]
        · rw [alFind_put_ne _ e, ih]
          constructor
          · rintro ⟨j, hj, a, b, c, d⟩
            exact ⟨j, by omega, a, b, c, fun m y h1 h2 h3 => by
              rcases Nat.lt_succ_iff_lt_or_eq.1 h2 with h4 | rfl
              · exact d m y h1 h4 h3
              · rw [hz] at h3; injection h3 with h3; subst h3; exact fun _ _ e' => e e'.symm⟩
          · rintro ⟨j, hj, a, b, c, d⟩
            rcases Nat.lt_succ_iff_lt_or_eq.1 hj with h4 | rfl
            · exact ⟨j, h4, a, b, c, fun m y h1 h2 => d m y h1 (by omega)⟩
            · rw [hz] at a; injection a with a; subst a; exact absurd rfl e
      · rw [cM_no hz hc, ih]
        constructor
        · rintro ⟨j, hj, a, b, c, d⟩
          exact ⟨j, by omega, a, b, c, fun m y h1 h2 h3 h5 h6 => by
            rcases Nat.lt_succ_iff_lt_or_eq.1 h2 with h4 | rfl
            · exact d m y h1 h4 h3 h5 h6
            · rw [hz] at h3; injection h3 with h3; subst h3; exact absurd ⟨h5, h6⟩ hc⟩
        · rintro ⟨j, hj, a, b, c, d⟩
          rcases Nat.lt_succ_iff_lt_or_eq.1 hj with h4 | rfl
          · exact ⟨j, h4, a, b, c, fun m y h1 h2 => d m y h1 (by omega)⟩
          · rw [hz] at a; injection a with a; subst a; exact absurd ⟨b, c⟩ hc
theorem opI_all {l : List Ord} {p : ByteArray} {mo kn : Int} {E : List Ord} (hv : validB l = true) (h : OpI l p mo kn l.length E) : E = openL l p mo kn := by
  refine sorted_ext h.2.1 (openL_sorted _ _ _ _) fun x => ?_
  rw [h.2.2 x, mem_openL hv, find_cM]
  constructor
  · rintro ⟨j, hj, a, b, c, d, e⟩
    exact ⟨⟨j, hj, a, b, c, fun m y h1 _ h3 _ h5 => e m y h1 h3 h5⟩, d⟩
  · rintro ⟨⟨j, hj, a, b, c, e⟩, d⟩
    refine ⟨j, hj, a, b, c, d, fun m y h1 h3 h5 hn => ?_⟩
    have hm : m < l.length := (List.getElem?_eq_some_iff.1 h3).1
    have hy : y.p = x.p := (ok_fit (valid_len hv).2 (by rw [List.take_length]; exact List.mem_of_getElem? h3) (by rw [List.take_length]; exact List.mem_of_getElem? a) hn).1
    exact e m y h1 hm h3 (by rw [hy, b]) h5 hn
/-- No order between bears the number. -/
def noneIn (l : List Ord) (a : Int) (k : Nat) : Nat → Bool
  | 0 => true
  | q + 1 => noneIn l a k q && (decide (q ≤ k) || match l[q]? with | some y => y.n != a | none => true)
theorem noneIn_start (l : List Ord) (a : Int) (k : Nat) : ∀ q, q ≤ k + 1 → noneIn l a k q = true
  | 0, _ => rfl
  | q + 1, h => by unfold noneIn; rw [noneIn_start l a k q (by omega), decide_eq_true (show q ≤ k by omega)]; rfl
theorem noneIn_succ {l : List Ord} {a : Int} {k q : Nat} {y : Ord} (hy : l[q]? = some y) (hk : k < q) : noneIn l a k (q + 1) = (noneIn l a k q && (y.n != a)) := by
  conv => lhs; unfold noneIn
  rw [hy, decide_eq_false (by omega)]; rfl
theorem noneIn_iff {l : List Ord} {a : Int} {k : Nat} : ∀ q, noneIn l a k q = true ↔ ∀ m y, k < m → m < q → l[m]? = some y → y.n ≠ a
  | 0 => by simp [noneIn]
  | q + 1 => by
    unfold noneIn
    rw [Bool.and_eq_true, noneIn_iff q]
    constructor
    · rintro ⟨h1, h2⟩ m y a1 a2 a3
      rcases Nat.lt_succ_iff_lt_or_eq.1 a2 with h4 | rfl
      · exact h1 m y a1 h4 a3
      · rw [a3, decide_eq_false (by omega)] at h2; simpa using h2
    · intro h
      refine ⟨fun m y a1 a2 => h m y a1 (by omega), ?_⟩
      by_cases hk : q ≤ k
      · rw [decide_eq_true hk]; rfl
      · cases hy : l[q]? with
        | none => simp
        | some y => have := h q y (by omega) (by omega) hy; simpa [hk] using this
theorem later_iff {l : List Ord} {kn : Int} {k q : Nat} {x : Ord} (hv : validB l = true) (hk : ∀ m y, k < m → m < q → l[m]? = some y → y.k ≤ kn) (hs : ∀ y, l[q]? = some y → kn < y.k) : noneIn l x.n k q = true ↔ NoLater l kn k x := by
  rw [noneIn_iff]
  constructor
  · intro h m y a1 a2 a3
    by_cases hq : m < q
    · exact h m y a1 hq a2
    · have hm : m < l.length := (List.getElem?_eq_some_iff.1 a2).1
      have hz := List.getElem?_eq_getElem (show q < l.length by omega)
      have h1 := hs _ hz
      have h2 := mono_k (valid_len hv).2 (d := m - q) (i := q) (by omega) hz (by rw [show q + (m - q) = m by omega]; exact a2)
      omega
  · intro h m y a1 a2 a3
    exact h m y a1 a3 (hk m y a1 a2 a3)
theorem insO_at {x : Ord} : ∀ {E : List Ord} {q : Nat}, (∀ m z, m < q → E[m]? = some z → ltB z x = true) → (∀ z, E[q]? = some z → ltB z x = false) → E.take q ++ x :: E.drop q = insO x E
  | [], q, _, _ => by simp [insO]
  | z :: E, 0, _, h => by simp [insO, h z rfl]
  | z :: E, q + 1, h1, h2 => by
    unfold insO
    rw [if_pos (h1 0 z (by omega) rfl), ← insO_at (E := E) (q := q) (fun m y hm hy => h1 (m + 1) y (by omega) hy) (fun y hy => h2 y hy)]
    rfl
end WageOrd
namespace Go.Proofs.Ytjpnodmcglcihaa
open Go.RowKit Go.Proofs WageMem WageOrd WageRec WageMap WageReg
set_option maxHeartbeats 2000000 in
theorem before_any (x y : Ord) (t : Bool) (ht : ltB x y = t) (w : World) : Calls Try.prog 29 #[.agg #[.int .i64 x.n, .string x.p, .string x.c, .int .i64 x.r, .int .i64 x.k, .int .i64 x.f, .int .i64 x.m, .bool x.fam], .agg #[.int .i64 y.n, .string y.p, .string y.c, .int .i64 y.r, .int .i64 y.k, .int .i64 y.f, .int .i64 y.m, .bool y.fam]] w fun e w' => e = .returned (.bool t) ∧ Grew w w' := by
  have hc : (decide (x.r < y.r) = true ∧ t = true) ∨ (decide (x.r < y.r) = false ∧ (x.r == y.r) = true ∧ decide (x.n < y.n) = t) ∨ (decide (x.r < y.r) = false ∧ (x.r == y.r) = false ∧ t = false) := by
    subst ht
    unfold ltB
    by_cases h1 : x.r < y.r
    · exact .inl ⟨decide_eq_true h1, by rw [decide_eq_true h1]; rfl⟩
    · by_cases h2 : x.r = y.r
      · exact .inr (.inl ⟨decide_eq_false h1, by rw [beq_iff_eq]; exact h2, by rw [decide_eq_false h1, decide_eq_true h2]; simp⟩)
      · exact .inr (.inr ⟨decide_eq_false h1, by rw [beq_eq_false_iff_ne]; exact h2, by rw [decide_eq_false h1, decide_eq_false h2]; rfl⟩)
  clear ht
  rcases hc with ⟨h1, rfl⟩ | ⟨h1, h2, h3⟩ | ⟨h1, h2, rfl⟩
  · go_enter Try.func29, Try.ntmps29
    go_wp2_with fail
    go_ret
    exact ⟨rfl, ((Grew.refl w).alloc _).alloc _⟩
  · go_enter Try.func29, Try.ntmps29
    go_wp2_with fail
    go_ret
    exact ⟨rfl, ((Grew.refl w).alloc _).alloc _⟩
  · go_enter Try.func29, Try.ntmps29
    go_wp2_with fail
    go_ret
    exact ⟨rfl, ((Grew.refl w).alloc _).alloc _⟩
end Go.Proofs.Ytjpnodmcglcihaa
