/-
  The fixed examples at the head of each law.
-/
import Derived.Test.YtidjelhbliekbaaDoorFns
namespace Go.Proofs.YtidjelhbliekbaaDoor
open Go.RowKit Go.Shelf Go.Proofs Wage26

theorem elI_true {x : Int} (h0 : 1 ≤ x) (h1 : x < 2147483579) (h : pw x.toNat 1073741789 = 1) : elI x = true := by
  unfold elI
  rw [decide_eq_true ⟨h0, h1⟩, powI_pos (by omega) h1 (by decide), show (1073741789 : Int).toNat = 1073741789 from rfl, h]
  rfl
theorem el4 : elI 4 = true := elI_true (by decide) (by decide) g4
theorem el9 : elI 9 = true := elI_true (by decide) (by decide) g9
theorem el0 : elI 0 = false := rfl
theorem elNeg : elI 2147483578 = false := by
  unfold elI
  rw [powI_pos (by decide) (by decide) (by decide), show (1073741789 : Int).toNat = Q from rfl, show (2147483578 : Int).toNat = P - 1 from rfl, neg_Q]
  rfl

section
variable {w : World}
theorem commit_val (v r x c : Int) (hg : Gen w) (hx : cmI v r = x) (hc : cmE v r = c) :
    Calls Tryd.prog 12 #[.int .i64 v, .int .i64 r] w fun e w' => e = .returned (.tuple #[.int .i64 x, .int .i64 c]) ∧ Grew w w' := by
  subst hx hc; exact commit_any v r w hg
theorem add_val (a b x c : Int) (hx : adI a b = x) (hc : adE a b = c) :
    Calls Tryd.prog 14 #[.int .i64 a, .int .i64 b] w fun e w' => e = .returned (.tuple #[.int .i64 x, .int .i64 c]) ∧ Grew w w' := by
  subst hx hc; exact add_any a b w
theorem open_val (c v r : Int) (x : Bool) (hg : Gen w) (hx : opI c v r = x) :
    Calls Tryd.prog 17 #[.int .i64 c, .int .i64 v, .int .i64 r] w fun e w' => e = .returned (.bool x) ∧ Grew w w' := by
  subst hx; exact open_any c v r w hg
theorem power_val (b e x : Int) (he : e ≤ 9223372036854775807) (hx : powI b e = x) :
    Calls Tryd.prog 16 #[.int .i64 b, .int .i64 e] w fun r w' => r = .returned (.int .i64 x) ∧ Grew w w' := by
  subst hx; exact power_any b e w he
end

set_option maxRecDepth 100000 in
set_option maxHeartbeats 4000000 in
theorem head_true (w : World) (hg : Gen w) : Calls Tryd.prog 9 #[] w fun e w' => e = .returned (.bool true) ∧ Grew w w' := by
  go_enter Tryd.func9, Tryd.ntmps9
  go_wp2_with fail
  refine (commit_val 1 0 4 0 hg (by decide +kernel) (by decide +kernel)).mono ?_
  rintro e w1 ⟨rfl, k1⟩
  have g1 := hg.grew k1
  go_wp2_with fail
  refine (commit_val 0 1 9 0 g1 (by decide +kernel) (by decide +kernel)).mono ?_
  rintro e w2 ⟨rfl, k2⟩
  have g2 := g1.grew k2
  go_wp2_with fail
  refine (commit_val 2 1 144 0 g2 (by decide +kernel) (by decide +kernel)).mono ?_
  rintro e w3 ⟨rfl, k3⟩
  have g3 := g2.grew k3
  go_wp2_with fail
  refine (commit_val 1073741789 0 0 1 g3 (by decide +kernel) (by decide +kernel)).mono ?_
  rintro e w4 ⟨rfl, k4⟩
  have g4' := g3.grew k4
  go_wp2_with fail
  refine (add_val 4 9 36 0 (by unfold adI; rw [el4, el9]; rfl) (by unfold adE; rw [el4, el9]; rfl)).mono ?_
  rintro e w5 ⟨rfl, k5⟩
  have g5 := g4'.grew k5
  go_wp2_with fail
  refine (add_val 0 4 0 1 (by unfold adI; rw [el0]; rfl) (by unfold adE; rw [el0]; rfl)).mono ?_
  rintro e w6 ⟨rfl, k6⟩
  have g6 := g5.grew k6
  go_wp2_with fail
  refine (add_val 2147483578 4 0 1 (by unfold adI; rw [elNeg]; rfl) (by unfold adE; rw [elNeg]; rfl)).mono ?_
  rintro e w7 ⟨rfl, k7⟩
  have g7 := g6.grew k7
  go_wp2_with fail
  refine (open_val 144 2 1 true g7 (by decide +kernel)).mono ?_
  rintro e w8 ⟨rfl, k8⟩
  have g8 := g7.grew k8
  go_wp2_with fail
  refine (open_val 144 1 2 false g8 (by decide +kernel)).mono ?_
  rintro e w9 ⟨rfl, k9⟩
  go_wp2_with fail
  refine (power_val 3 4 81 (by decide) (by decide +kernel)).mono ?_
  rintro e w10 ⟨rfl, k10⟩
  go_wp2_with fail
  refine (power_val 5 0 1 (by decide) (by decide +kernel)).mono ?_
  rintro e w11 ⟨rfl, k11⟩
  go_wp2_with fail
  refine (power_val 2 31 69 (by decide) (by decide +kernel)).mono ?_
  rintro e w12 ⟨rfl, k12⟩
  go_wp2_with fail
  refine (power_val (-1) 2 0 (by decide) (by decide +kernel)).mono ?_
  rintro e w13 ⟨rfl, k13⟩
  go_wp2_with fail
  refine (power_val 2 (-1) 0 (by decide) (by decide +kernel)).mono ?_
  rintro e w14 ⟨rfl, k14⟩
  go_wp2_with fail
  go_ret
  exact ⟨rfl, k1.trans (k2.trans (k3.trans (k4.trans (k5.trans (k6.trans (k7.trans (k8.trans (k9.trans (k10.trans (k11.trans (k12.trans (k13.trans k14))))))))))))⟩
end Go.Proofs.YtidjelhbliekbaaDoor
