/-
 Slices of spans in memory; how edges are compared.
-/
import Derived.Test.YtnnbibmmofnkdaaGreatProg
import Derived.Test.YtnnbibmmofnkdaaGreatKit
import Derived.Test.YtnnbibmmofnkdaaGreatSetA
import Derived.WalkKit
import Derived.WalkSpells
import Derived.Outline
import Derived.LoopTactic
import Derived.KernelRfl
import Derived.Sort.Grow
import Derived.Deep.QuietTactic
import Derived.BigQuiet
import Derived.Deep.RegionHeld3
namespace Go.Proofs.YtnnbibmmofnkdaaGreat
open Go.RowKit Go.Proofs WageMem WageSpan
/-! ### Blocks -/
theorem blk_cell {w : World} {g : Nat} {t : TypeId} {cs : Array Value} (h : w.heap[g]? = some (.cells cs t (0, 0))) (i : Nat) : w.cell? ⟨g, i, none⟩ = cs[i]? := cell_of_row w g i cs t (0, 0) h
theorem blk_frozen {w : World} {g : Nat} {t : TypeId} {cs : Array Value} (h : w.heap[g]? = some (.cells cs t (0, 0))) (i : Nat) : w.frozen? ⟨g, i, none⟩ = false := by simp [World.frozen?, h]
section
variable {w w' : World} {base : Nat} {e : TypeId} {size : Nat} {v : Value} {n : Nat} {xs : List Value}
theorem own_base {base' : Nat} (h : w.ownsRow base e size v n xs) (hb : base' ≤ base) : w.ownsRow base' e size v n xs := by
 refine ⟨h.1, ?_⟩
 rcases h.2 with h2 | ⟨g, cap, cur, hv, hg, r⟩
 ·exact .inl h2
 ·exact .inr ⟨g, cap, cur, hv, by omega, r⟩
theorem own_grew (h : w.ownsRow base e size v n xs) (g : Grew w w') : w'.ownsRow base e size v n xs := by
 refine h.kept (row := none) ⟨g.os, g.tape, g.output, g.size, fun k hk _ => g.below.block k hk⟩ ?_
 cases hb : v.ownBlock with
 | none => exact .inl rfl
 | some b => exact .inr (by simp)
end
/-! ### Spans -/
def encS (s : Sp) : List Value := [.int .i64 s.1, .int .i64 s.2]
def flat (ss : List Sp) : List Value := ss.flatMap encS
theorem flat_len (ss : List Sp) : (flat ss).length = ss.length * 2 := by
 unfold flat
 induction ss with
 | nil => rfl
 | cons s ss ih => simp only [List.flatMap_cons, List.length_append, ih, List.length_cons, encS, List.length_nil]; omega
theorem flat_append (l k : List Sp) : flat (l ++ k) = flat l ++ flat k := by unfold flat; rw [List.flatMap_append]
theorem flat_at : ∀ (ss : List Sp) (k : Nat) (s : Sp), ss[k]? = some s → (flat ss)[k * 2]? = some (.int .i64 s.1) ∧ (flat ss)[k * 2 + 1]? = some (.int .i64 s.2)
 | [], k, s, h => by simp at h
 | x :: ss, 0, s, h => by
  simp at h
  subst h
  exact ⟨rfl, rfl⟩
 | x :: ss, k + 1, s, h => by
  have := flat_at ss k s (by simpa using h)
  have e : flat (x :: ss) = .int .i64 x.1 :: .int .i64 x.2 :: flat ss := rfl
  rw [e, show (k + 1) * 2 = k * 2 + 1 + 1 by omega]
  exact ⟨by simpa using this.1, by simpa using this.2⟩
theorem flat_one (ss : List Sp) : ∀ u ∈ flat ss, u.oneCell' = true := by
 intro u hu
 obtain ⟨s, _, hs⟩ := List.mem_flatMap.1 hu
 unfold encS at hs
 rcases List.mem_cons.1 hs with rfl | hs
 ·rfl
 ·rcases List.mem_cons.1 hs with rfl | hs
  ·rfl
  ·simp at hs
def In64 (ss : List Sp) : Prop := ∀ s ∈ ss, (-9223372036854775808 ≤ s.1 ∧ s.1 ≤ 9223372036854775807) ∧ (-9223372036854775808 ≤ s.2 ∧ s.2 ≤ 9223372036854775807)
/-- A slice of spans. -/
def Spans (w : World) (A : Option Addr) (n c : Nat) (ss : List Sp) : Prop := ss.length = n ∧ Sl w 2 A n c (flat ss) ∧ In64 ss
theorem Spans.grew {w w' : World} {A : Option Addr} {n c : Nat} {ss : List Sp} (h : Spans w A n c ss) (g : Grew w w') : Spans w' A n c ss := ⟨h.1, h.2.1.grew g, h.2.2⟩
theorem Spans.none_ {w : World} : Spans w none 0 0 [] := ⟨rfl, ⟨Nat.le_refl _, Nat.zero_le _, rfl, Cells.nil, fun _ => ⟨rfl, rfl⟩⟩, fun s hs => by simp at hs⟩
theorem Spans.at_ {w : World} {A : Option Addr} {n c : Nat} {ss : List Sp} (h : Spans w A n c ss) {k : Nat} (hk : k < n) :
  ∃ b o s, A = some ⟨b, o, none⟩ ∧ ss[k]? = some s ∧ w.cell? ⟨b, o + k * 2, none⟩ = some (.int .i64 s.1) ∧ w.cell? ⟨b, o + k * 2 + 1, none⟩ = some (.int .i64 s.2) ∧
   (-9223372036854775808 ≤ s.1 ∧ s.1 ≤ 9223372036854775807) ∧ (-9223372036854775808 ≤ s.2 ∧ s.2 ≤ 9223372036854775807) := by
 have hl : k < ss.length := by rw [h.1]; exact hk
 have hs : ss[k]? = some ss[k] := List.getElem?_eq_getElem hl
 obtain ⟨b, o, e, hc⟩ := h.2.1.2.2.2.1 (by intro h0; have := flat_len ss; rw [h0, h.1] at this; simp at this; omega)
 obtain ⟨f1, f2⟩ := flat_at ss k _ hs
 have hb := h.2.2 _ (List.mem_of_getElem? hs)
 exact ⟨b, o, ss[k], e, hs, hc _ _ f1, by rw [Nat.add_assoc]; exact hc _ _ f2, hb.1, hb.2⟩
theorem Spans.own {w : World} {base : Nat} {e : TypeId} {A : Option Addr} {n c : Nat} {ss : List Sp} (hn : ss.length = n) (hb : In64 ss) (h : w.ownsRow base e 2 (.slice A n c) n (flat ss)) : Spans w A n c ss := ⟨hn, Sl.own h, hb⟩
theorem Spans.le {w : World} {A : Option Addr} {n c : Nat} {ss : List Sp} (h : Spans w A n c ss) : n ≤ 9223372036854775807 := Nat.le_trans h.2.1.1 h.2.1.2.1
/-- A contract's end: a slice of spans of its own. -/
def RetS (ss : List Sp) (w : World) (r : Ending) (w' : World) : Prop :=
 ∃ A n c, r = .returned (.slice A n c) ∧ ss.length = n ∧ In64 ss ∧ w'.ownsRow w.heap.size 28 2 (.slice A n c) n (flat ss) ∧ Grew w w'
theorem proper_cases (a b : Int) : (decide (-1152921504606846976 ≤ a) = false ∧ properB (a, b) = false) ∨ (decide (-1152921504606846976 ≤ a) = true ∧ decide (b ≤ 1152921504606846976) = false ∧ properB (a, b) = false) ∨
  (decide (-1152921504606846976 ≤ a) = true ∧ decide (b ≤ 1152921504606846976) = true ∧ properB (a, b) = decide (a < b)) := by
 by_cases h1 : -1152921504606846976 ≤ a
 ·by_cases h2 : b ≤ 1152921504606846976
  ·refine .inr (.inr ⟨decide_eq_true h1, decide_eq_true h2, ?_⟩)
   unfold properB; rw [decide_eq_decide]; simp only; omega
  ·refine .inr (.inl ⟨decide_eq_true h1, decide_eq_false h2, ?_⟩)
   unfold properB; rw [decide_eq_false_iff_not]; simp only; omega
 ·refine .inl ⟨decide_eq_false h1, ?_⟩
  unfold properB; rw [decide_eq_false_iff_not]; simp only; omega
theorem proper_any (a b : Int) (w : World) : Calls Tryz.prog 157 #[.agg #[.int .i64 a, .int .i64 b]] w fun e w' => e = .returned (.bool (properB (a, b))) ∧ Grew w w' := by
 rcases proper_cases a b with ⟨h1, h2⟩ | ⟨h1, h2, h3⟩ | ⟨h1, h2, h3⟩
 ·rw [h2]
  go_enter Tryz.func157, Tryz.ntmps157
  go_wp2
  go_ret
  exact ⟨rfl, (Grew.refl w).alloc _⟩
 ·rw [h3]
  go_enter Tryz.func157, Tryz.ntmps157
  go_wp2
  go_ret
  exact ⟨rfl, (Grew.refl w).alloc _⟩
 ·rw [h3]
  clear h3
  go_enter Tryz.func157, Tryz.ntmps157
  go_wp2
  go_ret
  exact ⟨rfl, (Grew.refl w).alloc _⟩
theorem rproper_any (a b : Int) (w : World) : Calls Tryz.prog 139 #[.agg #[.int .i64 a, .int .i64 b]] w fun e w' => e = .returned (.bool (properB (a, b))) ∧ Grew w w' := by
 rcases proper_cases a b with ⟨h1, h2⟩ | ⟨h1, h2, h3⟩ | ⟨h1, h2, h3⟩
 ·rw [h2]
  go_enter Tryz.func139, Tryz.ntmps139
  go_wp2
  go_ret
  exact ⟨rfl, (Grew.refl w).alloc _⟩
 ·rw [h3]
  go_enter Tryz.func139, Tryz.ntmps139
  go_wp2
  go_ret
  exact ⟨rfl, (Grew.refl w).alloc _⟩
 ·rw [h3]
  clear h3
  go_enter Tryz.func139, Tryz.ntmps139
  go_wp2
  go_ret
  exact ⟨rfl, (Grew.refl w).alloc _⟩
theorem proper_val {a b : Int} {t : Bool} (h : properB (a, b) = t) (w : World) : Calls Tryz.prog 157 #[.agg #[.int .i64 a, .int .i64 b]] w fun e w' => e = .returned (.bool t) ∧ Grew w w' := by
 subst h; exact proper_any a b w
theorem rproper_val {a b : Int} {t : Bool} (h : properB (a, b) = t) (w : World) : Calls Tryz.prog 139 #[.agg #[.int .i64 a, .int .i64 b]] w fun e w' => e = .returned (.bool t) ∧ Grew w w' := by
 subst h; exact rproper_any a b w
end Go.Proofs.YtnnbibmmofnkdaaGreat
namespace Go.Proofs.YtnnbibmmofnkdaaGreat
open Go.RowKit Go.Proofs WageMem WageSpan Go.Sort
def cmpI (x y : Int) : Int := if x < y then -1 else if y < x then 1 else 0
theorem isNaN_any (x : Int) (w : World) : Calls Tryz.prog 100 #[.int .i64 x] w fun e w' => e = .returned (.bool false) ∧ w = w' := by
 have t : (x != x) = false := by simp
 go_enter Tryz.func100, Tryz.ntmps100
 go_wp2
 go_ret
 exact ⟨rfl, rfl⟩
theorem compare_any (x y : Int) (w : World) : Calls Tryz.prog 47 #[.int .i64 x, .int .i64 y] w fun e w' => e = .returned (.int .i64 (cmpI x y)) ∧ w = w' := by
 have hc : (decide (x < y) = true ∧ cmpI x y = -1) ∨ (decide (x < y) = false ∧ decide (y < x) = true ∧ cmpI x y = 1) ∨ (decide (x < y) = false ∧ decide (y < x) = false ∧ cmpI x y = 0) := by
  unfold cmpI
  by_cases h1 : x < y
  ·exact .inl ⟨decide_eq_true h1, by rw [if_pos h1]⟩
  ·by_cases h2 : y < x
   ·exact .inr (.inl ⟨decide_eq_false h1, decide_eq_true h2, by rw [if_neg h1, if_pos h2]⟩)
   ·exact .inr (.inr ⟨decide_eq_false h1, decide_eq_false h2, by rw [if_neg h1, if_neg h2]⟩)
 rcases hc with ⟨h1, h2⟩ | ⟨h1, h2, h3⟩ | ⟨h1, h2, h3⟩
 ·rw [h2]
  clear h2
  go_enter Tryz.func47, Tryz.ntmps47
  go_wp2_with (go_at_call 100; refine (isNaN_any _ _).mono ?_; rintro e w' ⟨rfl, rfl⟩)
  go_ret
  exact ⟨rfl, rfl⟩
 ·rw [h3]
  clear h3
  go_enter Tryz.func47, Tryz.ntmps47
  go_wp2_with (go_at_call 100; refine (isNaN_any _ _).mono ?_; rintro e w' ⟨rfl, rfl⟩)
  go_ret
  exact ⟨rfl, rfl⟩
 ·rw [h3]
  clear h3
  go_enter Tryz.func47, Tryz.ntmps47
  go_wp2_with (go_at_call 100; refine (isNaN_any _ _).mono ?_; rintro e w' ⟨rfl, rfl⟩)
  go_ret
  exact ⟨rfl, rfl⟩
/-- The world has drawn and laid blocks; nothing else. -/
def Lays (w w' : World) : Prop := ∃ q os, w' = grow (w.drewN q) os
theorem Lays.refl (w : World) : Lays w w := ⟨0, #[], by rw [grow_empty]; rfl⟩
theorem Lays.alloc {w w' : World} (h : Lays w w') (o : Obj) : Lays w (w'.alloc o) := by
 obtain ⟨q, os, rfl⟩ := h
 exact ⟨q, os ++ #[o], by rw [alloc_eq_grow, grow_grow]⟩
theorem Lays.drewN {w w' : World} (h : Lays w w') (n : Nat) : Lays w (w'.drewN n) := by
 obtain ⟨q, os, rfl⟩ := h
 exact ⟨q + n, os, by rw [← World.drewN_drewN]; rfl⟩
theorem Lays.drew {w w' : World} (h : Lays w w') : Lays w w'.drew := h.drewN 1
theorem Lays.trans {a b c : World} (h : Lays a b) (k : Lays b c) : Lays a c := by
 obtain ⟨q, os, rfl⟩ := k
 obtain ⟨q1, os1, h1⟩ := h.drewN q
 rw [h1]
 exact ⟨q1, os1 ++ os, by rw [grow_grow]⟩
theorem Lays.cell {w w' : World} (h : Lays w w') {p : Addr} {v : Value} (hc : w.cell? p = some v) : w'.cell? p = some v := by
 obtain ⟨q, os, rfl⟩ := h
 obtain ⟨o, ho, _⟩ := cells_of_cell hc
 have hlt := (Array.getElem?_eq_some_iff.1 ho).1
 refine (World.cell?_of_block ?_).trans (show (w.drewN q).cell? p = some v from hc)
 show (w.heap ++ os)[p.block]? = w.heap[p.block]?
 exact Array.getElem?_append_left hlt
set_option maxHeartbeats 400000 in
theorem key_any (a b c : Int) (w : World) : Calls Tryz.prog 159 #[.agg #[.int .i64 a, .int .i64 b, .int .i64 c]] w fun e w' => e = .returned (.int .i64 a) ∧ Lays w w' := by
 go_enter Tryz.func159, Tryz.ntmps159
 go_wp2
 go_ret
 exact ⟨rfl, (Lays.refl w).alloc _⟩
structure Sev (K : Nat) (W : World) (a b c a' b' c' : Int) (X : World) : Prop where
 k0 : X.cell? ⟨K, 0, none⟩ = some (.func (.func 159) #[] #[])
 a0 : X.cell? ⟨W.heap.size, 0, none⟩ = some (.int .i64 a)
 a1 : X.cell? ⟨W.heap.size, 1, none⟩ = some (.int .i64 b)
 a2 : X.cell? ⟨W.heap.size, 2, none⟩ = some (.int .i64 c)
 b0 : X.cell? ⟨W.heap.size + 1, 0, none⟩ = some (.int .i64 a')
 b1 : X.cell? ⟨W.heap.size + 1, 1, none⟩ = some (.int .i64 b')
 b2 : X.cell? ⟨W.heap.size + 1, 2, none⟩ = some (.int .i64 c')
 ls : Lays W X
theorem Sev.lays {K : Nat} {W : World} {a b c a' b' c' : Int} {X Y : World} (h : Sev K W a b c a' b' c' X) (l : Lays X Y) : Sev K W a b c a' b' c' Y :=
 ⟨l.cell h.k0, l.cell h.a0, l.cell h.a1, l.cell h.a2, l.cell h.b0, l.cell h.b1, l.cell h.b2, h.ls.trans l⟩
theorem key_sev {K : Nat} {W : World} {a b c a' b' c' : Int} {X : World} (h : Sev K W a b c a' b' c' X) (x y z : Int) :
  Calls Tryz.prog 159 #[.agg #[.int .i64 x, .int .i64 y, .int .i64 z]] X fun e w' => e = .returned (.int .i64 x) ∧ w'.cell? ⟨K, 0, none⟩ = some (.func (.func 159) #[] #[]) ∧ w'.cell? ⟨W.heap.size, 0, none⟩ = some (.int .i64 a) ∧ w'.cell? ⟨W.heap.size, 1, none⟩ = some (.int .i64 b) ∧ w'.cell? ⟨W.heap.size, 2, none⟩ = some (.int .i64 c) ∧ w'.cell? ⟨W.heap.size + 1, 0, none⟩ = some (.int .i64 a') ∧ w'.cell? ⟨W.heap.size + 1, 1, none⟩ = some (.int .i64 b') ∧ w'.cell? ⟨W.heap.size + 1, 2, none⟩ = some (.int .i64 c') ∧ Hid (Sev K W a b c a' b' c' w') :=
 (key_any x y z X).mono fun _ _ ⟨e, g⟩ => ⟨e, g.cell h.k0, g.cell h.a0, g.cell h.a1, g.cell h.a2, g.cell h.b0, g.cell h.b1, g.cell h.b2, h.lays g⟩
set_option maxHeartbeats 4000000 in
theorem cmp_any (a b c a' b' c' : Int) (K : Nat) (W : World) (hk : W.cell? ⟨K, 0, none⟩ = some (.func (.func 159) #[] #[])) :
  Calls Tryz.prog 171 #[.agg #[.int .i64 a, .int .i64 b, .int .i64 c], .agg #[.int .i64 a', .int .i64 b', .int .i64 c'], .pointer (some ⟨K, 0, none⟩)] W fun e w' => e = .returned (.int .i64 (cmpI a a')) ∧ Lays W w' := by
 obtain ⟨w1, hw1⟩ : ∃ x, x = (W.alloc (.cells #[.int .i64 a, .int .i64 b, .int .i64 c] 244)).alloc (.cells #[.int .i64 a', .int .i64 b', .int .i64 c'] 244) := ⟨_, rfl⟩
 have l1 : Lays W w1 := by rw [hw1]; exact ((Lays.refl W).alloc _).alloc _
 have k0 : w1.cell? ⟨K, 0, none⟩ = some (.func (.func 159) #[] #[]) := l1.cell hk
 have szk : K < W.heap.size := World.block_lt_of_cell? _ _ hk
 have a0 : w1.cell? ⟨W.heap.size, 0, none⟩ = some (.int .i64 a) := by rw [hw1]; simp
 have a1 : w1.cell? ⟨W.heap.size, 1, none⟩ = some (.int .i64 b) := by rw [hw1]; simp
 have a2 : w1.cell? ⟨W.heap.size, 2, none⟩ = some (.int .i64 c) := by rw [hw1]; simp
 have b0 : w1.cell? ⟨W.heap.size + 1, 0, none⟩ = some (.int .i64 a') := by rw [hw1]; simp
 have b1 : w1.cell? ⟨W.heap.size + 1, 1, none⟩ = some (.int .i64 b') := by rw [hw1]; simp
 have b2 : w1.cell? ⟨W.heap.size + 1, 2, none⟩ = some (.int .i64 c') := by rw [hw1]; simp
 have kb : Hid (Sev K W a b c a' b' c' w1.drew) := Sev.lays ⟨k0, a0, a1, a2, b0, b1, b2, l1⟩ (Lays.refl w1).drew
 clear l1
 go_enter Tryz.func171, Tryz.ntmps171
 go_wp2_with fail
 rw [← hw1]
 clear hw1 hk
 go_region_held3 (fun w' => w'.cell? ⟨K, 0, none⟩ = some (.func (.func 159) #[] #[]) ∧ w'.cell? ⟨W.heap.size, 0, none⟩ = some (.int .i64 a) ∧ w'.cell? ⟨W.heap.size, 1, none⟩ = some (.int .i64 b) ∧ w'.cell? ⟨W.heap.size, 2, none⟩ = some (.int .i64 c) ∧ w'.cell? ⟨W.heap.size + 1, 0, none⟩ = some (.int .i64 a') ∧ w'.cell? ⟨W.heap.size + 1, 1, none⟩ = some (.int .i64 b') ∧ w'.cell? ⟨W.heap.size + 1, 2, none⟩ = some (.int .i64 c'))
  (first | (refine ⟨?_, ?_, ?_, ?_, ?_, ?_, ?_⟩ <;> assumption) | go_keep)
  (first
   | (go_at_call 47; ((with_reducible refine (compare_any _ _ _).mono ?_); rintro e _ ⟨rfl, rfl⟩))
   | (go_at_call 159; ((with_reducible refine (key_sev kb.out _ _ _).mono ?_); rintro e w2 ⟨rfl, k0, k1, k2, k3, k4, k5, k6, kb⟩)))
 go_wp2_with fail
 go_ret
 exact ⟨rfl, kb.out.ls⟩
end Go.Proofs.YtnnbibmmofnkdaaGreat
