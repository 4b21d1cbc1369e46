/-
  How edges are compared: cmp.Compare, edges$1, sortBy$1.
-/
import Derived.Test.YtngbkpplkkpagaaSp
import Derived.Sort.Grow
import Derived.Deep.QuietTactic
import Derived.BigQuiet
import Derived.Deep.RegionHeld3
namespace Go.Proofs.Ytngbkpplkkpagaa
open Go.RowKit Go.Proofs WageMem WageSpan Go.Sort

def cmpI (x y : Int) : Int := if x < y then -1 else if y < x then 1 else 0

theorem isNaN_any (x : Int) (w : World) : Calls Try.prog 48 #[.int .i64 x] w fun e w' => e = .returned (.bool false) ∧ w = w' := by
  have t : (x != x) = false := by simp
  go_enter Try.func48, Try.ntmps48
  go_wp2
  go_ret
  exact ⟨rfl, rfl⟩
theorem compare_any (x y : Int) (w : World) : Calls Try.prog 45 #[.int .i64 x, .int .i64 y] w fun e w' => e = .returned (.int .i64 (cmpI x y)) ∧ w = w' := by
  have hc : (decide (x < y) = true ∧ cmpI x y = -1) ∨ (decide (x < y) = false ∧ decide (y < x) = true ∧ cmpI x y = 1) ∨ (decide (x < y) = false ∧ decide (y < x) = false ∧ cmpI x y = 0) := by
    unfold cmpI
    by_cases h1 : x < y
    · exact .inl ⟨decide_eq_true h1, by rw [if_pos h1]⟩
    · by_cases h2 : y < x
      · exact .inr (.inl ⟨decide_eq_false h1, decide_eq_true h2, by rw [if_neg h1, if_pos h2]⟩)
      · exact .inr (.inr ⟨decide_eq_false h1, decide_eq_false h2, by rw [if_neg h1, if_neg h2]⟩)
  rcases hc with ⟨h1, h2⟩ | ⟨h1, h2, h3⟩ | ⟨h1, h2, h3⟩
  · rw [h2]
    clear h2
    go_enter Try.func45, Try.ntmps45
    go_wp2_with (go_at_call 48; refine (isNaN_any _ _).mono ?_; rintro e w' ⟨rfl, rfl⟩)
    go_ret
    exact ⟨rfl, rfl⟩
  · rw [h3]
    clear h3
    go_enter Try.func45, Try.ntmps45
    go_wp2_with (go_at_call 48; refine (isNaN_any _ _).mono ?_; rintro e w' ⟨rfl, rfl⟩)
    go_ret
    exact ⟨rfl, rfl⟩
  · rw [h3]
    clear h3
    go_enter Try.func45, Try.ntmps45
    go_wp2_with (go_at_call 48; refine (isNaN_any _ _).mono ?_; rintro e w' ⟨rfl, rfl⟩)
    go_ret
    exact ⟨rfl, rfl⟩

/-- The world has drawn and laid blocks; nothing else. -/
def Lays (w w' : World) : Prop := ∃ q os, w' = grow (w.drewN q) os
theorem Lays.refl (w : World) : Lays w w := ⟨0, #[], by rw [grow_empty]; rfl⟩
theorem Lays.alloc {w w' : World} (h : Lays w w') (o : Obj) : Lays w (w'.alloc o) := by
  obtain ⟨q, os, rfl⟩ := h
  exact ⟨q, os ++ #[o], by rw [alloc_eq_grow, grow_grow]⟩
theorem Lays.drewN {w w' : World} (h : Lays w w') (n : Nat) : Lays w (w'.drewN n) := by
  obtain ⟨q, os, rfl⟩ := h
  exact ⟨q + n, os, by rw [← World.drewN_drewN]; rfl⟩
theorem Lays.drew {w w' : World} (h : Lays w w') : Lays w w'.drew := h.drewN 1
theorem Lays.trans {a b c : World} (h : Lays a b) (k : Lays b c) : Lays a c := by
  obtain ⟨q, os, rfl⟩ := k
  obtain ⟨q1, os1, h1⟩ := h.drewN q
  rw [h1]
  exact ⟨q1, os1 ++ os, by rw [grow_grow]⟩
theorem Lays.cell {w w' : World} (h : Lays w w') {p : Addr} {v : Value} (hc : w.cell? p = some v) : w'.cell? p = some v := by
  obtain ⟨q, os, rfl⟩ := h
  obtain ⟨o, ho, _⟩ := cells_of_cell hc
  have hlt := (Array.getElem?_eq_some_iff.1 ho).1
  refine (World.cell?_of_block ?_).trans (show (w.drewN q).cell? p = some v from hc)
  show (w.heap ++ os)[p.block]? = w.heap[p.block]?
  exact Array.getElem?_append_left hlt

set_option maxHeartbeats 400000 in
theorem key_any (a b c : Int) (w : World) : Calls Try.prog 42 #[.agg #[.int .i64 a, .int .i64 b, .int .i64 c]] w fun e w' => e = .returned (.int .i64 a) ∧ Lays w w' := by
  go_enter Try.func42, Try.ntmps42
  go_wp2
  go_ret
  exact ⟨rfl, (Lays.refl w).alloc _⟩
structure Sev (K : Nat) (W : World) (a b c a' b' c' : Int) (X : World) : Prop where
  k0 : X.cell? ⟨K, 0, none⟩ = some (.func (.func 42) #[] #[])
  a0 : X.cell? ⟨W.heap.size, 0, none⟩ = some (.int .i64 a)
  a1 : X.cell? ⟨W.heap.size, 1, none⟩ = some (.int .i64 b)
  a2 : X.cell? ⟨W.heap.size, 2, none⟩ = some (.int .i64 c)
  b0 : X.cell? ⟨W.heap.size + 1, 0, none⟩ = some (.int .i64 a')
  b1 : X.cell? ⟨W.heap.size + 1, 1, none⟩ = some (.int .i64 b')
  b2 : X.cell? ⟨W.heap.size + 1, 2, none⟩ = some (.int .i64 c')
  ls : Lays W X
theorem Sev.lays {K : Nat} {W : World} {a b c a' b' c' : Int} {X Y : World} (h : Sev K W a b c a' b' c' X) (l : Lays X Y) : Sev K W a b c a' b' c' Y :=
  ⟨l.cell h.k0, l.cell h.a0, l.cell h.a1, l.cell h.a2, l.cell h.b0, l.cell h.b1, l.cell h.b2, h.ls.trans l⟩
theorem key_sev {K : Nat} {W : World} {a b c a' b' c' : Int} {X : World} (h : Sev K W a b c a' b' c' X) (x y z : Int) :
    Calls Try.prog 42 #[.agg #[.int .i64 x, .int .i64 y, .int .i64 z]] X fun e w' => e = .returned (.int .i64 x) ∧ w'.cell? ⟨K, 0, none⟩ = some (.func (.func 42) #[] #[]) ∧ w'.cell? ⟨W.heap.size, 0, none⟩ = some (.int .i64 a) ∧ w'.cell? ⟨W.heap.size, 1, none⟩ = some (.int .i64 b) ∧ w'.cell? ⟨W.heap.size, 2, none⟩ = some (.int .i64 c) ∧ w'.cell? ⟨W.heap.size + 1, 0, none⟩ = some (.int .i64 a') ∧ w'.cell? ⟨W.heap.size + 1, 1, none⟩ = some (.int .i64 b') ∧ w'.cell? ⟨W.heap.size + 1, 2, none⟩ = some (.int .i64 c') ∧ Hid (Sev K W a b c a' b' c' w') :=
  (key_any x y z X).mono fun _ _ ⟨e, g⟩ => ⟨e, g.cell h.k0, g.cell h.a0, g.cell h.a1, g.cell h.a2, g.cell h.b0, g.cell h.b1, g.cell h.b2, h.lays g⟩

set_option maxHeartbeats 4000000 in
theorem cmp_any (a b c a' b' c' : Int) (K : Nat) (W : World) (hk : W.cell? ⟨K, 0, none⟩ = some (.func (.func 42) #[] #[])) :
    Calls Try.prog 44 #[.agg #[.int .i64 a, .int .i64 b, .int .i64 c], .agg #[.int .i64 a', .int .i64 b', .int .i64 c'], .pointer (some ⟨K, 0, none⟩)] W fun e w' => e = .returned (.int .i64 (cmpI a a')) ∧ Lays W w' := by
  obtain ⟨w1, hw1⟩ : ∃ x, x = (W.alloc (.cells #[.int .i64 a, .int .i64 b, .int .i64 c] 51)).alloc (.cells #[.int .i64 a', .int .i64 b', .int .i64 c'] 51) := ⟨_, rfl⟩
  have l1 : Lays W w1 := by rw [hw1]; exact ((Lays.refl W).alloc _).alloc _
  have k0 : w1.cell? ⟨K, 0, none⟩ = some (.func (.func 42) #[] #[]) := l1.cell hk
  have szk : K < W.heap.size := World.block_lt_of_cell? _ _ hk
  have a0 : w1.cell? ⟨W.heap.size, 0, none⟩ = some (.int .i64 a) := by rw [hw1]; simp
  have a1 : w1.cell? ⟨W.heap.size, 1, none⟩ = some (.int .i64 b) := by rw [hw1]; simp
  have a2 : w1.cell? ⟨W.heap.size, 2, none⟩ = some (.int .i64 c) := by rw [hw1]; simp
  have b0 : w1.cell? ⟨W.heap.size + 1, 0, none⟩ = some (.int .i64 a') := by rw [hw1]; simp
  have b1 : w1.cell? ⟨W.heap.size + 1, 1, none⟩ = some (.int .i64 b') := by rw [hw1]; simp
  have b2 : w1.cell? ⟨W.heap.size + 1, 2, none⟩ = some (.int .i64 c') := by rw [hw1]; simp
  have kb : Hid (Sev K W a b c a' b' c' w1.drew) := Sev.lays ⟨k0, a0, a1, a2, b0, b1, b2, l1⟩ (Lays.refl w1).drew
  clear l1
  go_enter Try.func44, Try.ntmps44
  go_wp2_with fail
  rw [← hw1]
  clear hw1 hk
  go_region_held3 (fun w' => w'.cell? ⟨K, 0, none⟩ = some (.func (.func 42) #[] #[]) ∧ w'.cell? ⟨W.heap.size, 0, none⟩ = some (.int .i64 a) ∧ w'.cell? ⟨W.heap.size, 1, none⟩ = some (.int .i64 b) ∧ w'.cell? ⟨W.heap.size, 2, none⟩ = some (.int .i64 c) ∧ w'.cell? ⟨W.heap.size + 1, 0, none⟩ = some (.int .i64 a') ∧ w'.cell? ⟨W.heap.size + 1, 1, none⟩ = some (.int .i64 b') ∧ w'.cell? ⟨W.heap.size + 1, 2, none⟩ = some (.int .i64 c'))
    (first | (refine ⟨?_, ?_, ?_, ?_, ?_, ?_, ?_⟩ <;> assumption) | go_keep)
    (first
      | (go_at_call 45; ((with_reducible refine (compare_any _ _ _).mono ?_); rintro e _ ⟨rfl, rfl⟩))
      | (go_at_call 42; ((with_reducible refine (key_sev kb.out _ _ _).mono ?_); rintro e w2 ⟨rfl, k0, k1, k2, k3, k4, k5, k6, kb⟩)))
  go_wp2_with fail
  go_ret
  exact ⟨rfl, kb.out.ls⟩
end Go.Proofs.Ytngbkpplkkpagaa
