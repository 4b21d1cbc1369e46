/-
  What each function of package commitment returns, and what it leaves in memory.
-/
import Derived.Test.YtidjelhbliekbaaDoorPower
import Derived.Test.YtidjelhbliekbaaDoorSpec
import Derived.Deep.RegionHeld3
import Derived.BigQuiet
namespace Go.Proofs.YtidjelhbliekbaaDoor
open Go.RowKit Go.Shelf Go.Proofs Wage26

/-- Nothing that lay in memory has changed. -/
def Grew (w w' : World) : Prop := Below w.heap.size w w'
theorem Grew.refl (w : World) : Grew w w := Below.refl _ _
theorem Grew.trans {a b c : World} (h : Grew a b) (k : Grew b c) : Grew a c := Below.trans h (Below.mono k (Below.size h))
theorem Grew.cell {w w' : World} (h : Grew w w') {p : Addr} {v : Value} (hc : w.cell? p = some v) : w'.cell? p = some v := by
  obtain ⟨o, ho, _⟩ := cells_of_cell hc
  exact (Below.cell h (Array.getElem?_eq_some_iff.1 ho).1).trans hc
theorem Grew.drewN {w w' : World} (h : Grew w w') (n : Nat) : Grew w (w'.drewN n) := ⟨h.os, h.tape, h.output, h.size, h.block⟩
theorem Grew.drew {w w' : World} (h : Grew w w') : Grew w w'.drew := ⟨h.os, h.tape, h.output, h.size, h.block⟩
theorem Grew.alloc {w w' : World} (h : Grew w w') (o : Obj) : Grew w (w'.alloc o) := Below.alloc h (Below.size h) o
/-- The table of the generators lies in memory. -/
structure Gen (w : World) : Prop where
  c0 : w.cell? ⟨0, 0, none⟩ = some (.int .i64 4)
  c1 : w.cell? ⟨0, 1, none⟩ = some (.int .i64 9)
theorem Gen.grew {w w' : World} (h : Gen w) (g : Grew w w') : Gen w' := ⟨g.cell h.c0, g.cell h.c1⟩

theorem ret2_int {a b c d : Int} (h : a = b) (k : c = d) : Ending.returned (.tuple #[.int .i64 a, .int .i64 c]) = .returned (.tuple #[.int .i64 b, .int .i64 d]) := by rw [h, k]
theorem mulmod {a b : Int} (ha : 0 ≤ a ∧ a < 2147483579) (hb : 0 ≤ b ∧ b < 2147483579) : (IntKind.i64.wrap (a * b)).tmod 2147483579 = a * b % 2147483579 := by
  have m := mul_bd ha.1 ha.2 hb.1 hb.2
  rw [IntKind.wrap_i64]
  have e : (a * b + 9223372036854775808) % 18446744073709551616 - 9223372036854775808 = a * b := by omega
  rw [e]
  exact Int.tmod_eq_emod_of_nonneg m.1

set_option maxHeartbeats 1000000 in
theorem power_bad (b e : Int) (w : World) (h : ¬ (0 ≤ b ∧ b < 2147483579 ∧ 0 ≤ e)) :
    Calls Tryd.prog 16 #[.int .i64 b, .int .i64 e] w fun r w' => r = .returned (.int .i64 0) ∧ Grew w w' := by
  by_cases h1 : b < 0
  · clear h
    have d1 : decide (b < 0) = true := decide_eq_true h1
    go_enter Tryd.func16, Tryd.ntmps16
    go_wp2
    go_ret
    exact ⟨rfl, (Grew.refl _).alloc _⟩
  · by_cases h2 : 2147483579 ≤ b
    · clear h
      have d1 : decide (b < 0) = false := decide_eq_false h1
      have d2 : decide (2147483579 ≤ b) = true := decide_eq_true h2
      go_enter Tryd.func16, Tryd.ntmps16
      go_wp2
      go_ret
      exact ⟨rfl, (Grew.refl _).alloc _⟩
    · have h3 : e < 0 := by omega
      clear h
      have d1 : decide (b < 0) = false := decide_eq_false h1
      have d2 : decide (2147483579 ≤ b) = false := decide_eq_false h2
      have d3 : decide (e < 0) = true := decide_eq_true h3
      go_enter Tryd.func16, Tryd.ntmps16
      go_wp2
      go_ret
      exact ⟨rfl, (Grew.refl _).alloc _⟩

theorem power_any (b e : Int) (w : World) (he : e ≤ 9223372036854775807) :
    Calls Tryd.prog 16 #[.int .i64 b, .int .i64 e] w fun r w' => r = .returned (.int .i64 (powI b e)) ∧ Grew w w' := by
  by_cases h : 0 ≤ b ∧ b < 2147483579 ∧ 0 ≤ e
  · rw [powI_pos h.1 h.2.1 h.2.2]
    exact power_ok b e w h.1 h.2.1 h.2.2 he
  · rw [powI_neg h]
    exact power_bad b e w h

theorem power_gen (b e : Int) (w : World) (he : e ≤ 9223372036854775807) (g0 : w.cell? ⟨0, 0, none⟩ = some (.int .i64 4)) (g1 : w.cell? ⟨0, 1, none⟩ = some (.int .i64 9)) :
    Calls Tryd.prog 16 #[.int .i64 b, .int .i64 e] w fun r w' => r = .returned (.int .i64 (powI b e)) ∧ w'.cell? ⟨0, 0, none⟩ = some (.int .i64 4) ∧ w'.cell? ⟨0, 1, none⟩ = some (.int .i64 9) ∧ Grew w w' :=
  (power_any b e w he).mono fun _ _ ⟨h, k⟩ => ⟨h, k.cell g0, k.cell g1, k⟩

set_option maxHeartbeats 1000000 in
theorem commit_ok (v r : Int) (w : World) (hg : Gen w) (h0 : 0 ≤ v) (h1 : v < 1073741789) (h2 : 0 ≤ r) (h3 : r < 1073741789) :
    Calls Tryd.prog 12 #[.int .i64 v, .int .i64 r] w fun e w' => e = .returned (.tuple #[.int .i64 (cmI v r), .int .i64 0]) ∧ Grew w w' := by
  have d1 : decide (v < 0) = false := decide_eq_false (by omega)
  have d2 : decide (1073741789 ≤ v) = false := decide_eq_false (by omega)
  have d3 : decide (r < 0) = false := decide_eq_false (by omega)
  have d4 : decide (1073741789 ≤ r) = false := decide_eq_false (by omega)
  have g0 := hg.c0
  have g1 := hg.c1
  go_enter Tryd.func12, Tryd.ntmps12
  go_wp2_with fail
  go_region_held3 (fun w' => w'.cell? ⟨0, 0, none⟩ = some (.int .i64 4) ∧ w'.cell? ⟨0, 1, none⟩ = some (.int .i64 9)) (go_keep)
    (first | (go_at_call 16; refine (power_gen _ _ _ ?_ ?_ ?_).mono ?_; omega; assumption; assumption; rintro e w' ⟨rfl, k0, k1, kg⟩))
  rename_i w1 _ _ kg1 _
  go_wp2
  go_ret2
  refine ⟨ret2_int ?_ rfl, Grew.trans ((Grew.refl w).drew.trans kg1) kg⟩
  rw [mulmod (powI_bd _ _) (powI_bd _ _)]
  exact cmI_pow h0 h1 h2 h3

set_option maxHeartbeats 1000000 in
theorem commit_bad (v r : Int) (w : World) (h : ¬ (0 ≤ v ∧ v < 1073741789 ∧ 0 ≤ r ∧ r < 1073741789)) :
    Calls Tryd.prog 12 #[.int .i64 v, .int .i64 r] w fun e w' => e = .returned (.tuple #[.int .i64 0, .int .i64 1]) ∧ w = w' := by
  by_cases h1 : v < 0
  · clear h
    have d1 : decide (v < 0) = true := decide_eq_true h1
    go_enter Tryd.func12, Tryd.ntmps12
    go_wp2
    go_ret2
    exact ⟨rfl, rfl⟩
  have d1 : decide (v < 0) = false := decide_eq_false h1
  by_cases h2 : 1073741789 ≤ v
  · clear h
    have d2 : decide (1073741789 ≤ v) = true := decide_eq_true h2
    go_enter Tryd.func12, Tryd.ntmps12
    go_wp2
    go_ret2
    exact ⟨rfl, rfl⟩
  have d2 : decide (1073741789 ≤ v) = false := decide_eq_false h2
  by_cases h3 : r < 0
  · clear h
    have d3 : decide (r < 0) = true := decide_eq_true h3
    go_enter Tryd.func12, Tryd.ntmps12
    go_wp2
    go_ret2
    exact ⟨rfl, rfl⟩
  have d3 : decide (r < 0) = false := decide_eq_false h3
  have h4 : 1073741789 ≤ r := by omega
  have d4 : decide (1073741789 ≤ r) = true := decide_eq_true h4
  clear h
  go_enter Tryd.func12, Tryd.ntmps12
  go_wp2
  go_ret2
  exact ⟨rfl, rfl⟩

theorem commit_any (v r : Int) (w : World) (hg : Gen w) :
    Calls Tryd.prog 12 #[.int .i64 v, .int .i64 r] w fun e w' => e = .returned (.tuple #[.int .i64 (cmI v r), .int .i64 (cmE v r)]) ∧ Grew w w' := by
  by_cases h : 0 ≤ v ∧ v < 1073741789 ∧ 0 ≤ r ∧ r < 1073741789
  · rw [show cmE v r = 0 by unfold cmE; rw [okQ_true h.1 h.2.1, okQ_true h.2.2.1 h.2.2.2]; rfl]
    exact commit_ok v r w hg h.1 h.2.1 h.2.2.1 h.2.2.2
  · have hq : (okQ v && okQ r) = false := by
      rw [Bool.and_eq_false_iff]
      by_cases h1 : 0 ≤ v ∧ v < 1073741789
      · exact .inr (okQ_false (by omega))
      · exact .inl (okQ_false (by omega))
    rw [show cmI v r = 0 by unfold cmI; rw [hq]; rfl, show cmE v r = 1 by unfold cmE; rw [hq]; rfl]
    exact (commit_bad v r w h).mono fun _ _ ⟨a, b⟩ => ⟨a, b ▸ Grew.refl w⟩

set_option maxHeartbeats 1000000 in
theorem element_any (x : Int) (w : World) :
    Calls Tryd.prog 19 #[.int .i64 x] w fun e w' => e = .returned (.bool (elI x)) ∧ Grew w w' := by
  by_cases h1 : 1 ≤ x
  · have d1 : decide (1 ≤ x) = true := decide_eq_true h1
    by_cases h2 : x < 2147483579
    · have d2 : decide (x < 2147483579) = true := decide_eq_true h2
      have e : elI x = (powI x 1073741789 == 1) := by unfold elI; rw [decide_eq_true ⟨h1, h2⟩]; rfl
      have E := Lib.hid e
      clear e
      go_enter Tryd.func19, Tryd.ntmps19
      go_wp2_with (go_at_call 16; refine (power_any _ _ _ (by decide)).mono ?_; rintro e w' ⟨rfl, kg⟩)
      go_ret
      exact ⟨by rw [E.out]; rfl, kg⟩
    · have d2 : decide (x < 2147483579) = false := decide_eq_false h2
      have e : elI x = false := by unfold elI; rw [decide_eq_false (by omega)]; rfl
      have E := Lib.hid e
      clear e
      go_enter Tryd.func19, Tryd.ntmps19
      go_wp2_with fail
      go_ret
      exact ⟨by rw [E.out]; rfl, Grew.refl _⟩
  · have d1 : decide (1 ≤ x) = false := decide_eq_false h1
    have e : elI x = false := by unfold elI; rw [decide_eq_false (by omega)]; rfl
    have E := Lib.hid e
    clear e
    go_enter Tryd.func19, Tryd.ntmps19
    go_wp2_with fail
    go_ret
    exact ⟨by rw [E.out]; rfl, Grew.refl _⟩

theorem elI_bd {x : Int} (h : elI x = true) : 1 ≤ x ∧ x < 2147483579 := by
  unfold elI at h
  rw [Bool.and_eq_true] at h
  exact of_decide_eq_true h.1

set_option maxHeartbeats 1000000 in
theorem add_any (a b : Int) (w : World) :
    Calls Tryd.prog 14 #[.int .i64 a, .int .i64 b] w fun e w' => e = .returned (.tuple #[.int .i64 (adI a b), .int .i64 (adE a b)]) ∧ Grew w w' := by
  cases ha : elI a with
  | false =>
    have HA := Lib.hid ha
    clear ha
    go_enter Tryd.func14, Tryd.ntmps14
    go_wp2_with fail
    refine (element_any a _).mono ?_
    rintro e w1 ⟨rfl, k1⟩
    rw [HA.out]
    go_wp2_with fail
    go_ret2
    exact ⟨ret2_int (by unfold adI; rw [HA.out]; rfl) (by unfold adE; rw [HA.out]; rfl), k1⟩
  | true =>
    have ba := elI_bd ha
    have HA := Lib.hid ha
    clear ha
    cases hb : elI b with
    | false =>
      have HB := Lib.hid hb
      clear hb
      go_enter Tryd.func14, Tryd.ntmps14
      go_wp2_with fail
      refine (element_any a _).mono ?_
      rintro e w1 ⟨rfl, k1⟩
      rw [HA.out]
      go_wp2_with fail
      refine (element_any b _).mono ?_
      rintro e w2 ⟨rfl, k2⟩
      rw [HB.out]
      go_wp2_with fail
      go_ret2
      exact ⟨ret2_int (by unfold adI; rw [HA.out, HB.out]; rfl) (by unfold adE; rw [HA.out, HB.out]; rfl), k1.trans k2⟩
    | true =>
      have bb := elI_bd hb
      have HB := Lib.hid hb
      clear hb
      go_enter Tryd.func14, Tryd.ntmps14
      go_wp2_with fail
      refine (element_any a _).mono ?_
      rintro e w1 ⟨rfl, k1⟩
      rw [HA.out]
      go_wp2_with fail
      refine (element_any b _).mono ?_
      rintro e w2 ⟨rfl, k2⟩
      rw [HB.out]
      obtain ⟨a0, a1⟩ := ba
      obtain ⟨b0, b1⟩ := bb
      have m := mul_bd (r := a) (q := b) (by omega) a1 (by omega) b1
      obtain ⟨m0, m1⟩ := m
      go_wp2_with fail
      go_ret2
      exact ⟨ret2_int (by unfold adI; rw [HA.out, HB.out]; rfl) (by unfold adE; rw [HA.out, HB.out]; rfl), k1.trans k2⟩

set_option maxHeartbeats 1000000 in
theorem open_any (c v r : Int) (w : World) (hg : Gen w) :
    Calls Tryd.prog 17 #[.int .i64 c, .int .i64 v, .int .i64 r] w fun e w' => e = .returned (.bool (opI c v r)) ∧ Grew w w' := by
  have hE : cmE v r = 0 ∨ cmE v r = 1 := by unfold cmE; split <;> simp
  rcases hE with hE | hE
  · have HE := Lib.hid hE
    clear hE
    go_enter Tryd.func17, Tryd.ntmps17
    go_wp2_with fail
    refine (commit_any v r _ hg).mono ?_
    rintro e w1 ⟨rfl, k1⟩
    rw [HE.out]
    go_wp2_with fail
    go_ret
    exact ⟨by unfold opI; rw [HE.out]; rfl, k1⟩
  · have HE := Lib.hid hE
    clear hE
    go_enter Tryd.func17, Tryd.ntmps17
    go_wp2_with fail
    refine (commit_any v r _ hg).mono ?_
    rintro e w1 ⟨rfl, k1⟩
    rw [HE.out]
    go_wp2_with fail
    go_ret
    exact ⟨by unfold opI; rw [HE.out]; rfl, k1⟩
end Go.Proofs.YtidjelhbliekbaaDoor
