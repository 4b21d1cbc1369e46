/-
  Slices of spans in memory; blocks; worlds that have only grown.
-/
import Derived.Test.YtngbkpplkkpagaaProg
import Derived.Test.YtngbkpplkkpagaaMem
import Derived.Test.YtngbkpplkkpagaaSetsB
import Derived.WalkKit
import Derived.WalkSpells
import Derived.Outline
import Derived.LoopTactic
import Derived.KernelRfl
namespace Go.Proofs.Ytngbkpplkkpagaa
open Go.RowKit Go.Proofs WageMem WageSpan

/-! ### Blocks -/
theorem blk_cell {w : World} {g : Nat} {t : TypeId} {cs : Array Value} (h : w.heap[g]? = some (.cells cs t (0, 0))) (i : Nat) : w.cell? ⟨g, i, none⟩ = cs[i]? := cell_of_row w g i cs t (0, 0) h
theorem blk_frozen {w : World} {g : Nat} {t : TypeId} {cs : Array Value} (h : w.heap[g]? = some (.cells cs t (0, 0))) (i : Nat) : w.frozen? ⟨g, i, none⟩ = false := by simp [World.frozen?, h]
theorem addp (b o i : Nat) : (⟨b, o, none⟩ : Addr).add i = ⟨b, o + i, none⟩ := by
  unfold Addr.add; split
  · rename_i h; subst h; rfl
  · rfl
section
variable {w w' : World} {base : Nat} {e : TypeId} {size : Nat} {v : Value} {n : Nat} {xs : List Value}
theorem own_base {base' : Nat} (h : w.ownsRow base e size v n xs) (hb : base' ≤ base) : w.ownsRow base' e size v n xs := by
  refine ⟨h.1, ?_⟩
  rcases h.2 with h2 | ⟨g, cap, cur, hv, hg, r⟩
  · exact .inl h2
  · exact .inr ⟨g, cap, cur, hv, by omega, r⟩
theorem own_ne_type (h : w.ownsRow base e size v n xs) {R : Nat} {cs : Array Value} {t : TypeId} (hR : w.heap[R]? = some (.cells cs t (0, 0))) (hne : e ≠ t) : v.ownBlock ≠ some R := by
  rcases h.2 with ⟨rfl, _⟩ | ⟨g, cap, cur, rfl, _, hg, _⟩
  · simp [Value.ownBlock]
  · intro he
    have : g = R := by simpa [Value.ownBlock] using he
    subst this
    rw [hg] at hR
    injection hR with hR
    injection hR with _ ht
    exact hne ht
theorem own_grew (h : w.ownsRow base e size v n xs) (g : Grew w w') : w'.ownsRow base e size v n xs := by
  refine h.kept (row := none) ⟨g.os, g.tape, g.output, g.size, fun k hk _ => g.below.block k hk⟩ ?_
  cases hb : v.ownBlock with
  | none => exact .inl rfl
  | some b => exact .inr (by simp)
theorem own_at {A : Option Addr} {c : Nat} (h : w.ownsRow base e size (.slice A n c) n xs) (hn : 0 < n) : ∃ g, A = some ⟨g, 0, none⟩ ∧ base ≤ g := by
  rcases h.2 with ⟨_, h0⟩ | ⟨g', cap, cur, hv, hb, _⟩
  · omega
  · injection hv with e1
    exact ⟨g', e1, hb⟩
end

/-! ### Spans -/
def encS (s : Sp) : List Value := [.int .i64 s.1, .int .i64 s.2]
def flat (ss : List Sp) : List Value := ss.flatMap encS
theorem flat_len (ss : List Sp) : (flat ss).length = ss.length * 2 := by
  unfold flat
  induction ss with
  | nil => rfl
  | cons s ss ih => simp only [List.flatMap_cons, List.length_append, ih, List.length_cons, encS, List.length_nil]; omega
theorem flat_append (l k : List Sp) : flat (l ++ k) = flat l ++ flat k := by unfold flat; rw [List.flatMap_append]
theorem flat_at : ∀ (ss : List Sp) (k : Nat) (s : Sp), ss[k]? = some s → (flat ss)[k * 2]? = some (.int .i64 s.1) ∧ (flat ss)[k * 2 + 1]? = some (.int .i64 s.2)
  | [], k, s, h => by simp at h
  | x :: ss, 0, s, h => by
    simp at h
    subst h
    exact ⟨rfl, rfl⟩
  | x :: ss, k + 1, s, h => by
    have := flat_at ss k s (by simpa using h)
    have e : flat (x :: ss) = .int .i64 x.1 :: .int .i64 x.2 :: flat ss := rfl
    rw [e, show (k + 1) * 2 = k * 2 + 1 + 1 by omega]
    exact ⟨by simpa using this.1, by simpa using this.2⟩
theorem flat_one (ss : List Sp) : ∀ u ∈ flat ss, u.oneCell' = true := by
  intro u hu
  obtain ⟨s, _, hs⟩ := List.mem_flatMap.1 hu
  unfold encS at hs
  rcases List.mem_cons.1 hs with rfl | hs
  · rfl
  · rcases List.mem_cons.1 hs with rfl | hs
    · rfl
    · simp at hs
def In64 (ss : List Sp) : Prop := ∀ s ∈ ss, (-9223372036854775808 ≤ s.1 ∧ s.1 ≤ 9223372036854775807) ∧ (-9223372036854775808 ≤ s.2 ∧ s.2 ≤ 9223372036854775807)
/-- A slice of spans. -/
def Spans (w : World) (A : Option Addr) (n c : Nat) (ss : List Sp) : Prop := ss.length = n ∧ Sl w 2 A n c (flat ss) ∧ In64 ss
theorem Spans.grew {w w' : World} {A : Option Addr} {n c : Nat} {ss : List Sp} (h : Spans w A n c ss) (g : Grew w w') : Spans w' A n c ss := ⟨h.1, h.2.1.grew g, h.2.2⟩
theorem Spans.none_ {w : World} : Spans w none 0 0 [] := ⟨rfl, ⟨Nat.le_refl _, Nat.zero_le _, rfl, Cells.nil, fun _ => ⟨rfl, rfl⟩⟩, fun s hs => by simp at hs⟩
theorem Spans.at_ {w : World} {A : Option Addr} {n c : Nat} {ss : List Sp} (h : Spans w A n c ss) {k : Nat} (hk : k < n) :
    ∃ b o s, A = some ⟨b, o, none⟩ ∧ ss[k]? = some s ∧ w.cell? ⟨b, o + k * 2, none⟩ = some (.int .i64 s.1) ∧ w.cell? ⟨b, o + k * 2 + 1, none⟩ = some (.int .i64 s.2) ∧
      (-9223372036854775808 ≤ s.1 ∧ s.1 ≤ 9223372036854775807) ∧ (-9223372036854775808 ≤ s.2 ∧ s.2 ≤ 9223372036854775807) := by
  have hl : k < ss.length := by rw [h.1]; exact hk
  have hs : ss[k]? = some ss[k] := List.getElem?_eq_getElem hl
  obtain ⟨b, o, e, hc⟩ := h.2.1.2.2.2.1 (by intro h0; have := flat_len ss; rw [h0, h.1] at this; simp at this; omega)
  obtain ⟨f1, f2⟩ := flat_at ss k _ hs
  have hb := h.2.2 _ (List.mem_of_getElem? hs)
  exact ⟨b, o, ss[k], e, hs, hc _ _ f1, by rw [Nat.add_assoc]; exact hc _ _ f2, hb.1, hb.2⟩
theorem Spans.own {w : World} {base : Nat} {e : TypeId} {A : Option Addr} {n c : Nat} {ss : List Sp} (hn : ss.length = n) (hb : In64 ss) (h : w.ownsRow base e 2 (.slice A n c) n (flat ss)) : Spans w A n c ss := ⟨hn, Sl.own h, hb⟩
theorem Spans.le {w : World} {A : Option Addr} {n c : Nat} {ss : List Sp} (h : Spans w A n c ss) : n ≤ 9223372036854775807 := Nat.le_trans h.2.1.1 h.2.1.2.1
/-- A contract's end: a slice of spans of its own. -/
def RetS (ss : List Sp) (w : World) (r : Ending) (w' : World) : Prop :=
  ∃ A n c, r = .returned (.slice A n c) ∧ ss.length = n ∧ In64 ss ∧ w'.ownsRow w.heap.size 33 2 (.slice A n c) n (flat ss) ∧ Grew w w'

theorem proper_cases (a b : Int) : (decide (-1152921504606846976 ≤ a) = false ∧ properB (a, b) = false) ∨ (decide (-1152921504606846976 ≤ a) = true ∧ decide (b ≤ 1152921504606846976) = false ∧ properB (a, b) = false) ∨
    (decide (-1152921504606846976 ≤ a) = true ∧ decide (b ≤ 1152921504606846976) = true ∧ properB (a, b) = decide (a < b)) := by
  by_cases h1 : -1152921504606846976 ≤ a
  · by_cases h2 : b ≤ 1152921504606846976
    · refine .inr (.inr ⟨decide_eq_true h1, decide_eq_true h2, ?_⟩)
      unfold properB; rw [decide_eq_decide]; simp only; omega
    · refine .inr (.inl ⟨decide_eq_true h1, decide_eq_false h2, ?_⟩)
      unfold properB; rw [decide_eq_false_iff_not]; simp only; omega
  · refine .inl ⟨decide_eq_false h1, ?_⟩
    unfold properB; rw [decide_eq_false_iff_not]; simp only; omega
theorem proper_any (a b : Int) (w : World) : Calls Try.prog 38 #[.agg #[.int .i64 a, .int .i64 b]] w fun e w' => e = .returned (.bool (properB (a, b))) ∧ Grew w w' := by
  rcases proper_cases a b with ⟨h1, h2⟩ | ⟨h1, h2, h3⟩ | ⟨h1, h2, h3⟩
  · rw [h2]
    go_enter Try.func38, Try.ntmps38
    go_wp2
    go_ret
    exact ⟨rfl, (Grew.refl w).alloc _⟩
  · rw [h3]
    go_enter Try.func38, Try.ntmps38
    go_wp2
    go_ret
    exact ⟨rfl, (Grew.refl w).alloc _⟩
  · rw [h3]
    clear h3
    go_enter Try.func38, Try.ntmps38
    go_wp2
    go_ret
    exact ⟨rfl, (Grew.refl w).alloc _⟩
theorem rproper_any (a b : Int) (w : World) : Calls Try.prog 30 #[.agg #[.int .i64 a, .int .i64 b]] w fun e w' => e = .returned (.bool (properB (a, b))) ∧ Grew w w' := by
  rcases proper_cases a b with ⟨h1, h2⟩ | ⟨h1, h2, h3⟩ | ⟨h1, h2, h3⟩
  · rw [h2]
    go_enter Try.func30, Try.ntmps30
    go_wp2
    go_ret
    exact ⟨rfl, (Grew.refl w).alloc _⟩
  · rw [h3]
    go_enter Try.func30, Try.ntmps30
    go_wp2
    go_ret
    exact ⟨rfl, (Grew.refl w).alloc _⟩
  · rw [h3]
    clear h3
    go_enter Try.func30, Try.ntmps30
    go_wp2
    go_ret
    exact ⟨rfl, (Grew.refl w).alloc _⟩
theorem proper_val {a b : Int} {t : Bool} (h : properB (a, b) = t) (w : World) : Calls Try.prog 38 #[.agg #[.int .i64 a, .int .i64 b]] w fun e w' => e = .returned (.bool t) ∧ Grew w w' := by
  subst h; exact proper_any a b w
theorem rproper_val {a b : Int} {t : Bool} (h : properB (a, b) = t) (w : World) : Calls Try.prog 30 #[.agg #[.int .i64 a, .int .i64 b]] w fun e w' => e = .returned (.bool t) ∧ Grew w w' := by
  subst h; exact rproper_any a b w

end Go.Proofs.Ytngbkpplkkpagaa
