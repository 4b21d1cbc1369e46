/-
 Small functions of integers.
-/
import Derived.Test.YtnnbibmmofnkdaaGreatSpA
namespace Go.Proofs.YtnnbibmmofnkdaaGreat
open Go.RowKit Go.Proofs WageMem
theorem wrap64_id {z : Int} (h0 : -9223372036854775808 ≤ z) (h1 : z ≤ 9223372036854775807) : wrap64 z = z := by unfold wrap64; omega
theorem within101 (n m : Int) (t : Bool) (w : World) (h : decide (0 ≤ n ∧ n ≤ m) = t) : Calls Tryz.prog 101 #[.int .i64 n, .int .i64 m] w fun e w' => e = .returned (.bool t) ∧ Grew w w' := by
 subst h
 by_cases h0 : 0 ≤ n
 ·skip
  have q0_0 : decide (n ≥ 0) = true := decide_eq_true (by omega)
  have q0_1 : decide (0 ≤ n) = true := decide_eq_true (by omega)
  by_cases h1 : n ≤ m
  ·skip
   have q1_0 : decide (n ≤ m) = true := decide_eq_true (by omega)
   rw [decide_eq_true (show 0 ≤ n ∧ n ≤ m from ⟨h0, h1⟩)]
   clear h0 h1
   go_enter Tryz.func101, Tryz.ntmps101
   go_wp2_with fail
   go_ret
   exact ⟨rfl, by first | exact Grew.refl w | exact (Grew.refl w).alloc _⟩
  ·skip
   have q1_0 : decide (n ≤ m) = false := decide_eq_false (by omega)
   rw [decide_eq_false (fun h : 0 ≤ n ∧ n ≤ m => h1 h.2)]
   clear h0 h1
   go_enter Tryz.func101, Tryz.ntmps101
   go_wp2_with fail
   go_ret
   exact ⟨rfl, by first | exact Grew.refl w | exact (Grew.refl w).alloc _⟩
 ·skip
  have q0_0 : decide (n ≥ 0) = false := decide_eq_false (by omega)
  have q0_1 : decide (0 ≤ n) = false := decide_eq_false (by omega)
  rw [decide_eq_false (fun h : 0 ≤ n ∧ n ≤ m => h0 h.1)]
  clear h0
  go_enter Tryz.func101, Tryz.ntmps101
  go_wp2_with fail
  go_ret
  exact ⟨rfl, by first | exact Grew.refl w | exact (Grew.refl w).alloc _⟩
theorem within88 (n m : Int) (t : Bool) (w : World) (h : decide (0 ≤ n ∧ n ≤ m) = t) : Calls Tryz.prog 88 #[.int .i64 n, .int .i64 m] w fun e w' => e = .returned (.bool t) ∧ Grew w w' := by
 subst h
 by_cases h0 : 0 ≤ n
 ·skip
  have q0_0 : decide (n ≥ 0) = true := decide_eq_true (by omega)
  have q0_1 : decide (0 ≤ n) = true := decide_eq_true (by omega)
  by_cases h1 : n ≤ m
  ·skip
   have q1_0 : decide (n ≤ m) = true := decide_eq_true (by omega)
   rw [decide_eq_true (show 0 ≤ n ∧ n ≤ m from ⟨h0, h1⟩)]
   clear h0 h1
   go_enter Tryz.func88, Tryz.ntmps88
   go_wp2_with fail
   go_ret
   exact ⟨rfl, by first | exact Grew.refl w | exact (Grew.refl w).alloc _⟩
  ·skip
   have q1_0 : decide (n ≤ m) = false := decide_eq_false (by omega)
   rw [decide_eq_false (fun h : 0 ≤ n ∧ n ≤ m => h1 h.2)]
   clear h0 h1
   go_enter Tryz.func88, Tryz.ntmps88
   go_wp2_with fail
   go_ret
   exact ⟨rfl, by first | exact Grew.refl w | exact (Grew.refl w).alloc _⟩
 ·skip
  have q0_0 : decide (n ≥ 0) = false := decide_eq_false (by omega)
  have q0_1 : decide (0 ≤ n) = false := decide_eq_false (by omega)
  rw [decide_eq_false (fun h : 0 ≤ n ∧ n ≤ m => h0 h.1)]
  clear h0
  go_enter Tryz.func88, Tryz.ntmps88
  go_wp2_with fail
  go_ret
  exact ⟨rfl, by first | exact Grew.refl w | exact (Grew.refl w).alloc _⟩
theorem within105 (n l m : Int) (t : Bool) (w : World) (h : decide (l ≤ n ∧ n ≤ m) = t) : Calls Tryz.prog 105 #[.int .i64 n, .int .i64 l, .int .i64 m] w fun e w' => e = .returned (.bool t) ∧ Grew w w' := by
 subst h
 by_cases h0 : l ≤ n
 ·skip
  have q0_0 : decide (n ≥ l) = true := decide_eq_true (by omega)
  have q0_1 : decide (l ≤ n) = true := decide_eq_true (by omega)
  by_cases h1 : n ≤ m
  ·skip
   have q1_0 : decide (n ≤ m) = true := decide_eq_true (by omega)
   rw [decide_eq_true (show l ≤ n ∧ n ≤ m from ⟨h0, h1⟩)]
   clear h0 h1
   go_enter Tryz.func105, Tryz.ntmps105
   go_wp2_with fail
   go_ret
   exact ⟨rfl, by first | exact Grew.refl w | exact (Grew.refl w).alloc _⟩
  ·skip
   have q1_0 : decide (n ≤ m) = false := decide_eq_false (by omega)
   rw [decide_eq_false (fun h : l ≤ n ∧ n ≤ m => h1 h.2)]
   clear h0 h1
   go_enter Tryz.func105, Tryz.ntmps105
   go_wp2_with fail
   go_ret
   exact ⟨rfl, by first | exact Grew.refl w | exact (Grew.refl w).alloc _⟩
 ·skip
  have q0_0 : decide (n ≥ l) = false := decide_eq_false (by omega)
  have q0_1 : decide (l ≤ n) = false := decide_eq_false (by omega)
  rw [decide_eq_false (fun h : l ≤ n ∧ n ≤ m => h0 h.1)]
  clear h0
  go_enter Tryz.func105, Tryz.ntmps105
  go_wp2_with fail
  go_ret
  exact ⟨rfl, by first | exact Grew.refl w | exact (Grew.refl w).alloc _⟩
theorem instant103 (n : Int) (t : Bool) (w : World) (h : decide (0 ≤ n ∧ n ≤ 52595999) = t) : Calls Tryz.prog 103 #[.int .i64 n] w fun e w' => e = .returned (.bool t) ∧ Grew w w' := by
 subst h
 by_cases h0 : 0 ≤ n
 ·skip
  have q0_0 : decide (n ≥ 0) = true := decide_eq_true (by omega)
  have q0_1 : decide (0 ≤ n) = true := decide_eq_true (by omega)
  by_cases h1 : n ≤ 52595999
  ·skip
   have q1_0 : decide (n ≤ 52595999) = true := decide_eq_true (by omega)
   rw [decide_eq_true (show 0 ≤ n ∧ n ≤ 52595999 from ⟨h0, h1⟩)]
   clear h0 h1
   go_enter Tryz.func103, Tryz.ntmps103
   go_wp2_with fail
   go_ret
   exact ⟨rfl, by first | exact Grew.refl w | exact (Grew.refl w).alloc _⟩
  ·skip
   have q1_0 : decide (n ≤ 52595999) = false := decide_eq_false (by omega)
   rw [decide_eq_false (fun h : 0 ≤ n ∧ n ≤ 52595999 => h1 h.2)]
   clear h0 h1
   go_enter Tryz.func103, Tryz.ntmps103
   go_wp2_with fail
   go_ret
   exact ⟨rfl, by first | exact Grew.refl w | exact (Grew.refl w).alloc _⟩
 ·skip
  have q0_0 : decide (n ≥ 0) = false := decide_eq_false (by omega)
  have q0_1 : decide (0 ≤ n) = false := decide_eq_false (by omega)
  rw [decide_eq_false (fun h : 0 ≤ n ∧ n ≤ 52595999 => h0 h.1)]
  clear h0
  go_enter Tryz.func103, Tryz.ntmps103
  go_wp2_with fail
  go_ret
  exact ⟨rfl, by first | exact Grew.refl w | exact (Grew.refl w).alloc _⟩
theorem day137 (n : Int) (t : Bool) (w : World) (h : decide (0 ≤ n ∧ n ≤ 36524) = t) : Calls Tryz.prog 137 #[.int .i64 n] w fun e w' => e = .returned (.bool t) ∧ Grew w w' := by
 subst h
 by_cases h0 : 0 ≤ n
 ·skip
  have q0_0 : decide (n ≥ 0) = true := decide_eq_true (by omega)
  have q0_1 : decide (0 ≤ n) = true := decide_eq_true (by omega)
  by_cases h1 : n ≤ 36524
  ·skip
   have q1_0 : decide (n ≤ 36524) = true := decide_eq_true (by omega)
   rw [decide_eq_true (show 0 ≤ n ∧ n ≤ 36524 from ⟨h0, h1⟩)]
   clear h0 h1
   go_enter Tryz.func137, Tryz.ntmps137
   go_wp2_with fail
   go_ret
   exact ⟨rfl, by first | exact Grew.refl w | exact (Grew.refl w).alloc _⟩
  ·skip
   have q1_0 : decide (n ≤ 36524) = false := decide_eq_false (by omega)
   rw [decide_eq_false (fun h : 0 ≤ n ∧ n ≤ 36524 => h1 h.2)]
   clear h0 h1
   go_enter Tryz.func137, Tryz.ntmps137
   go_wp2_with fail
   go_ret
   exact ⟨rfl, by first | exact Grew.refl w | exact (Grew.refl w).alloc _⟩
 ·skip
  have q0_0 : decide (n ≥ 0) = false := decide_eq_false (by omega)
  have q0_1 : decide (0 ≤ n) = false := decide_eq_false (by omega)
  rw [decide_eq_false (fun h : 0 ≤ n ∧ n ≤ 36524 => h0 h.1)]
  clear h0
  go_enter Tryz.func137, Tryz.ntmps137
  go_wp2_with fail
  go_ret
  exact ⟨rfl, by first | exact Grew.refl w | exact (Grew.refl w).alloc _⟩
theorem stretch135 (a b : Int) (t : Bool) (w : World) (h : decide (0 ≤ a ∧ a ≤ b ∧ b ≤ 52596000) = t) : Calls Tryz.prog 135 #[.int .i64 a, .int .i64 b] w fun e w' => e = .returned (.bool t) ∧ Grew w w' := by
 subst h
 by_cases h0 : 0 ≤ a
 ·skip
  have q0_0 : decide (a ≥ 0) = true := decide_eq_true (by omega)
  have q0_1 : decide (0 ≤ a) = true := decide_eq_true (by omega)
  by_cases h1 : a ≤ b
  ·skip
   have q1_0 : decide (a ≤ b) = true := decide_eq_true (by omega)
   by_cases h2 : b ≤ 52596000
   ·skip
    have q2_0 : decide (b ≤ 52596000) = true := decide_eq_true (by omega)
    rw [decide_eq_true (show 0 ≤ a ∧ a ≤ b ∧ b ≤ 52596000 from ⟨h0, h1, h2⟩)]
    clear h0 h1 h2
    go_enter Tryz.func135, Tryz.ntmps135
    go_wp2_with fail
    go_ret
    exact ⟨rfl, by first | exact Grew.refl w | exact (Grew.refl w).alloc _⟩
   ·skip
    have q2_0 : decide (b ≤ 52596000) = false := decide_eq_false (by omega)
    rw [decide_eq_false (fun h : 0 ≤ a ∧ a ≤ b ∧ b ≤ 52596000 => h2 h.2.2)]
    clear h0 h1 h2
    go_enter Tryz.func135, Tryz.ntmps135
    go_wp2_with fail
    go_ret
    exact ⟨rfl, by first | exact Grew.refl w | exact (Grew.refl w).alloc _⟩
  ·skip
   have q1_0 : decide (a ≤ b) = false := decide_eq_false (by omega)
   rw [decide_eq_false (fun h : 0 ≤ a ∧ a ≤ b ∧ b ≤ 52596000 => h1 h.2.1)]
   clear h0 h1
   go_enter Tryz.func135, Tryz.ntmps135
   go_wp2_with fail
   go_ret
   exact ⟨rfl, by first | exact Grew.refl w | exact (Grew.refl w).alloc _⟩
 ·skip
  have q0_0 : decide (a ≥ 0) = false := decide_eq_false (by omega)
  have q0_1 : decide (0 ≤ a) = false := decide_eq_false (by omega)
  rw [decide_eq_false (fun h : 0 ≤ a ∧ a ≤ b ∧ b ≤ 52596000 => h0 h.1)]
  clear h0
  go_enter Tryz.func135, Tryz.ntmps135
  go_wp2_with fail
  go_ret
  exact ⟨rfl, by first | exact Grew.refl w | exact (Grew.refl w).alloc _⟩
theorem frame106 (a b : Int) (t : Bool) (w : World) (h : decide (0 ≤ a ∧ a ≤ 1440 ∧ 0 ≤ b ∧ b ≤ 1440) = t) : Calls Tryz.prog 106 #[.agg #[.int .i64 a, .int .i64 b]] w fun e w' => e = .returned (.bool t) ∧ Grew w w' := by
 subst h
 by_cases h0 : 0 ≤ a
 ·skip
  have q0_0 : decide (a ≥ 0) = true := decide_eq_true (by omega)
  have q0_1 : decide (0 ≤ a) = true := decide_eq_true (by omega)
  by_cases h1 : a ≤ 1440
  ·skip
   have q1_0 : decide (a ≤ 1440) = true := decide_eq_true (by omega)
   by_cases h2 : 0 ≤ b
   ·skip
    have q2_0 : decide (b ≥ 0) = true := decide_eq_true (by omega)
    have q2_1 : decide (0 ≤ b) = true := decide_eq_true (by omega)
    by_cases h3 : b ≤ 1440
    ·skip
     have q3_0 : decide (b ≤ 1440) = true := decide_eq_true (by omega)
     rw [decide_eq_true (show 0 ≤ a ∧ a ≤ 1440 ∧ 0 ≤ b ∧ b ≤ 1440 from ⟨h0, h1, h2, h3⟩)]
     clear h0 h1 h2 h3
     go_enter Tryz.func106, Tryz.ntmps106
     go_wp2_with fail
     go_ret
     exact ⟨rfl, by first | exact Grew.refl w | exact (Grew.refl w).alloc _⟩
    ·skip
     have q3_0 : decide (b ≤ 1440) = false := decide_eq_false (by omega)
     rw [decide_eq_false (fun h : 0 ≤ a ∧ a ≤ 1440 ∧ 0 ≤ b ∧ b ≤ 1440 => h3 h.2.2.2)]
     clear h0 h1 h2 h3
     go_enter Tryz.func106, Tryz.ntmps106
     go_wp2_with fail
     go_ret
     exact ⟨rfl, by first | exact Grew.refl w | exact (Grew.refl w).alloc _⟩
   ·skip
    have q2_0 : decide (b ≥ 0) = false := decide_eq_false (by omega)
    have q2_1 : decide (0 ≤ b) = false := decide_eq_false (by omega)
    rw [decide_eq_false (fun h : 0 ≤ a ∧ a ≤ 1440 ∧ 0 ≤ b ∧ b ≤ 1440 => h2 h.2.2.1)]
    clear h0 h1 h2
    go_enter Tryz.func106, Tryz.ntmps106
    go_wp2_with fail
    go_ret
    exact ⟨rfl, by first | exact Grew.refl w | exact (Grew.refl w).alloc _⟩
  ·skip
   have q1_0 : decide (a ≤ 1440) = false := decide_eq_false (by omega)
   rw [decide_eq_false (fun h : 0 ≤ a ∧ a ≤ 1440 ∧ 0 ≤ b ∧ b ≤ 1440 => h1 h.2.1)]
   clear h0 h1
   go_enter Tryz.func106, Tryz.ntmps106
   go_wp2_with fail
   go_ret
   exact ⟨rfl, by first | exact Grew.refl w | exact (Grew.refl w).alloc _⟩
 ·skip
  have q0_0 : decide (a ≥ 0) = false := decide_eq_false (by omega)
  have q0_1 : decide (0 ≤ a) = false := decide_eq_false (by omega)
  rw [decide_eq_false (fun h : 0 ≤ a ∧ a ≤ 1440 ∧ 0 ≤ b ∧ b ≤ 1440 => h0 h.1)]
  clear h0
  go_enter Tryz.func106, Tryz.ntmps106
  go_wp2_with fail
  go_ret
  exact ⟨rfl, by first | exact Grew.refl w | exact (Grew.refl w).alloc _⟩
theorem sval38 (a b s : Int) (t : Bool) (w : World) (h : decide (0 ≤ a ∧ a < b ∧ b ≤ 52596000 ∧ b - a ≤ 1440 ∧ 0 ≤ s ∧ s ≤ 65535) = t) : Calls Tryz.prog 38 #[.agg #[.int .i64 a, .int .i64 b, .int .i64 s]] w fun e w' => e = .returned (.bool t) ∧ Grew w w' := by
 subst h
 by_cases h0 : 0 ≤ a
 ·skip
  have q0_0 : decide (a < 0) = false := decide_eq_false (by omega)
  by_cases h1 : a < b
  ·skip
   have q1_0 : decide (b ≤ a) = false := decide_eq_false (by omega)
   by_cases h2 : b ≤ 52596000
   ·skip
    have q2_0 : decide (b > 52596000) = false := decide_eq_false (by omega)
    have q2_1 : decide (52596000 < b) = false := decide_eq_false (by omega)
    by_cases h3 : b - a ≤ 1440
    ·skip
     have q3_0 : decide (wrap64 (b - a) > 1440) = false := by rw [wrap64_id (by omega) (by omega)]; exact decide_eq_false (by omega)
     have q3_1 : decide (1440 < wrap64 (b - a)) = false := by rw [wrap64_id (by omega) (by omega)]; exact decide_eq_false (by omega)
     by_cases h4 : 0 ≤ s
     ·skip
      have q4_0 : decide (s ≥ 0) = true := decide_eq_true (by omega)
      have q4_1 : decide (0 ≤ s) = true := decide_eq_true (by omega)
      by_cases h5 : s ≤ 65535
      ·skip
       have q5_0 : decide (s ≤ 65535) = true := decide_eq_true (by omega)
       rw [decide_eq_true (show 0 ≤ a ∧ a < b ∧ b ≤ 52596000 ∧ b - a ≤ 1440 ∧ 0 ≤ s ∧ s ≤ 65535 from ⟨h0, h1, h2, h3, h4, h5⟩)]
       clear h0 h1 h2 h3 h4 h5
       go_enter Tryz.func38, Tryz.ntmps38
       go_wp2_with fail
       go_ret
       exact ⟨rfl, by first | exact Grew.refl w | exact (Grew.refl w).alloc _⟩
      ·skip
       have q5_0 : decide (s ≤ 65535) = false := decide_eq_false (by omega)
       rw [decide_eq_false (fun h : 0 ≤ a ∧ a < b ∧ b ≤ 52596000 ∧ b - a ≤ 1440 ∧ 0 ≤ s ∧ s ≤ 65535 => h5 h.2.2.2.2.2)]
       clear h0 h1 h2 h3 h4 h5
       go_enter Tryz.func38, Tryz.ntmps38
       go_wp2_with fail
       go_ret
       exact ⟨rfl, by first | exact Grew.refl w | exact (Grew.refl w).alloc _⟩
     ·skip
      have q4_0 : decide (s ≥ 0) = false := decide_eq_false (by omega)
      have q4_1 : decide (0 ≤ s) = false := decide_eq_false (by omega)
      rw [decide_eq_false (fun h : 0 ≤ a ∧ a < b ∧ b ≤ 52596000 ∧ b - a ≤ 1440 ∧ 0 ≤ s ∧ s ≤ 65535 => h4 h.2.2.2.2.1)]
      clear h0 h1 h2 h3 h4
      go_enter Tryz.func38, Tryz.ntmps38
      go_wp2_with fail
      go_ret
      exact ⟨rfl, by first | exact Grew.refl w | exact (Grew.refl w).alloc _⟩
    ·skip
     have q3_0 : decide (wrap64 (b - a) > 1440) = true := by rw [wrap64_id (by omega) (by omega)]; exact decide_eq_true (by omega)
     have q3_1 : decide (1440 < wrap64 (b - a)) = true := by rw [wrap64_id (by omega) (by omega)]; exact decide_eq_true (by omega)
     rw [decide_eq_false (fun h : 0 ≤ a ∧ a < b ∧ b ≤ 52596000 ∧ b - a ≤ 1440 ∧ 0 ≤ s ∧ s ≤ 65535 => h3 h.2.2.2.1)]
     clear h0 h1 h2 h3
     go_enter Tryz.func38, Tryz.ntmps38
     go_wp2_with fail
     go_ret
     exact ⟨rfl, by first | exact Grew.refl w | exact (Grew.refl w).alloc _⟩
   ·skip
    have q2_0 : decide (b > 52596000) = true := decide_eq_true (by omega)
    have q2_1 : decide (52596000 < b) = true := decide_eq_true (by omega)
    rw [decide_eq_false (fun h : 0 ≤ a ∧ a < b ∧ b ≤ 52596000 ∧ b - a ≤ 1440 ∧ 0 ≤ s ∧ s ≤ 65535 => h2 h.2.2.1)]
    clear h0 h1 h2
    go_enter Tryz.func38, Tryz.ntmps38
    go_wp2_with fail
    go_ret
    exact ⟨rfl, by first | exact Grew.refl w | exact (Grew.refl w).alloc _⟩
  ·skip
   have q1_0 : decide (b ≤ a) = true := decide_eq_true (by omega)
   rw [decide_eq_false (fun h : 0 ≤ a ∧ a < b ∧ b ≤ 52596000 ∧ b - a ≤ 1440 ∧ 0 ≤ s ∧ s ≤ 65535 => h1 h.2.1)]
   clear h0 h1
   go_enter Tryz.func38, Tryz.ntmps38
   go_wp2_with fail
   go_ret
   exact ⟨rfl, by first | exact Grew.refl w | exact (Grew.refl w).alloc _⟩
 ·skip
  have q0_0 : decide (a < 0) = true := decide_eq_true (by omega)
  rw [decide_eq_false (fun h : 0 ≤ a ∧ a < b ∧ b ≤ 52596000 ∧ b - a ≤ 1440 ∧ 0 ≤ s ∧ s ≤ 65535 => h0 h.1)]
  clear h0
  go_enter Tryz.func38, Tryz.ntmps38
  go_wp2_with fail
  go_ret
  exact ⟨rfl, by first | exact Grew.refl w | exact (Grew.refl w).alloc _⟩
theorem rval107 (a b s : Int) (t : Bool) (w : World) (h : decide (0 ≤ a ∧ b ≤ 52596000 ∧ a < b ∧ b - a ≤ 1440 ∧ 0 ≤ s ∧ s < 65536) = t) : Calls Tryz.prog 107 #[.agg #[.int .i64 a, .int .i64 b, .int .i64 s]] w fun e w' => e = .returned (.bool t) ∧ Grew w w' := by
 subst h
 by_cases h0 : 0 ≤ a
 ·skip
  have q0_0 : decide (a < 0) = false := decide_eq_false (by omega)
  by_cases h1 : b ≤ 52596000
  ·skip
   have q1_0 : decide (b > 52596000) = false := decide_eq_false (by omega)
   have q1_1 : decide (52596000 < b) = false := decide_eq_false (by omega)
   by_cases h2 : a < b
   ·skip
    have q2_0 : decide (a ≥ b) = false := decide_eq_false (by omega)
    have q2_1 : decide (b ≤ a) = false := decide_eq_false (by omega)
    by_cases h3 : b - a ≤ 1440
    ·skip
     have q3_0 : decide (wrap64 (b - a) ≤ 1440) = true := by rw [wrap64_id (by omega) (by omega)]; exact decide_eq_true (by omega)
     by_cases h4 : 0 ≤ s
     ·skip
      have q4_0 : decide (s ≥ 0) = true := decide_eq_true (by omega)
      have q4_1 : decide (0 ≤ s) = true := decide_eq_true (by omega)
      by_cases h5 : s < 65536
      ·skip
       have q5_0 : decide (s < 65536) = true := decide_eq_true (by omega)
       rw [decide_eq_true (show 0 ≤ a ∧ b ≤ 52596000 ∧ a < b ∧ b - a ≤ 1440 ∧ 0 ≤ s ∧ s < 65536 from ⟨h0, h1, h2, h3, h4, h5⟩)]
       clear h0 h1 h2 h3 h4 h5
       go_enter Tryz.func107, Tryz.ntmps107
       go_wp2_with fail
       go_ret
       exact ⟨rfl, by first | exact Grew.refl w | exact (Grew.refl w).alloc _⟩
      ·skip
       have q5_0 : decide (s < 65536) = false := decide_eq_false (by omega)
       rw [decide_eq_false (fun h : 0 ≤ a ∧ b ≤ 52596000 ∧ a < b ∧ b - a ≤ 1440 ∧ 0 ≤ s ∧ s < 65536 => h5 h.2.2.2.2.2)]
       clear h0 h1 h2 h3 h4 h5
       go_enter Tryz.func107, Tryz.ntmps107
       go_wp2_with fail
       go_ret
       exact ⟨rfl, by first | exact Grew.refl w | exact (Grew.refl w).alloc _⟩
     ·skip
      have q4_0 : decide (s ≥ 0) = false := decide_eq_false (by omega)
      have q4_1 : decide (0 ≤ s) = false := decide_eq_false (by omega)
      rw [decide_eq_false (fun h : 0 ≤ a ∧ b ≤ 52596000 ∧ a < b ∧ b - a ≤ 1440 ∧ 0 ≤ s ∧ s < 65536 => h4 h.2.2.2.2.1)]
      clear h0 h1 h2 h3 h4
      go_enter Tryz.func107, Tryz.ntmps107
      go_wp2_with fail
      go_ret
      exact ⟨rfl, by first | exact Grew.refl w | exact (Grew.refl w).alloc _⟩
    ·skip
     have q3_0 : decide (wrap64 (b - a) ≤ 1440) = false := by rw [wrap64_id (by omega) (by omega)]; exact decide_eq_false (by omega)
     rw [decide_eq_false (fun h : 0 ≤ a ∧ b ≤ 52596000 ∧ a < b ∧ b - a ≤ 1440 ∧ 0 ≤ s ∧ s < 65536 => h3 h.2.2.2.1)]
     clear h0 h1 h2 h3
     go_enter Tryz.func107, Tryz.ntmps107
     go_wp2_with fail
     go_ret
     exact ⟨rfl, by first | exact Grew.refl w | exact (Grew.refl w).alloc _⟩
   ·skip
    have q2_0 : decide (a ≥ b) = true := decide_eq_true (by omega)
    have q2_1 : decide (b ≤ a) = true := decide_eq_true (by omega)
    rw [decide_eq_false (fun h : 0 ≤ a ∧ b ≤ 52596000 ∧ a < b ∧ b - a ≤ 1440 ∧ 0 ≤ s ∧ s < 65536 => h2 h.2.2.1)]
    clear h0 h1 h2
    go_enter Tryz.func107, Tryz.ntmps107
    go_wp2_with fail
    go_ret
    exact ⟨rfl, by first | exact Grew.refl w | exact (Grew.refl w).alloc _⟩
  ·skip
   have q1_0 : decide (b > 52596000) = true := decide_eq_true (by omega)
   have q1_1 : decide (52596000 < b) = true := decide_eq_true (by omega)
   rw [decide_eq_false (fun h : 0 ≤ a ∧ b ≤ 52596000 ∧ a < b ∧ b - a ≤ 1440 ∧ 0 ≤ s ∧ s < 65536 => h1 h.2.1)]
   clear h0 h1
   go_enter Tryz.func107, Tryz.ntmps107
   go_wp2_with fail
   go_ret
   exact ⟨rfl, by first | exact Grew.refl w | exact (Grew.refl w).alloc _⟩
 ·skip
  have q0_0 : decide (a < 0) = true := decide_eq_true (by omega)
  rw [decide_eq_false (fun h : 0 ≤ a ∧ b ≤ 52596000 ∧ a < b ∧ b - a ≤ 1440 ∧ 0 ≤ s ∧ s < 65536 => h0 h.1)]
  clear h0
  go_enter Tryz.func107, Tryz.ntmps107
  go_wp2_with fail
  go_ret
  exact ⟨rfl, by first | exact Grew.refl w | exact (Grew.refl w).alloc _⟩
end Go.Proofs.YtnnbibmmofnkdaaGreat
