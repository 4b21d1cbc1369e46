/-
  What the functions of the commitment layer return, as plain functions of integers.
-/
import Derived.Test.YtidjelhbliekbaaDoorMath
namespace Wage26

def powI (b e : Int) : Int := if 0 ≤ b ∧ b < 2147483579 ∧ 0 ≤ e then ((pw b.toNat e.toNat : Nat) : Int) else 0
def okQ (x : Int) : Bool := decide (0 ≤ x ∧ x < 1073741789)
def cmI (v r : Int) : Int := if okQ v && okQ r then ((cm v.toNat r.toNat : Nat) : Int) else 0
def cmE (v r : Int) : Int := if okQ v && okQ r then 0 else 1
def elI (x : Int) : Bool := decide (1 ≤ x ∧ x < 2147483579) && (powI x 1073741789 == 1)
def adI (a b : Int) : Int := if elI a && elI b then a * b % 2147483579 else 0
def adE (a b : Int) : Int := if elI a && elI b then 0 else 1
def opI (c v r : Int) : Bool := (cmE v r == 0) && (cmI v r == c)

theorem powI_pos {b e : Int} (h0 : 0 ≤ b) (h1 : b < 2147483579) (h2 : 0 ≤ e) : powI b e = ((pw b.toNat e.toNat : Nat) : Int) := if_pos ⟨h0, h1, h2⟩
theorem powI_neg {b e : Int} (h : ¬ (0 ≤ b ∧ b < 2147483579 ∧ 0 ≤ e)) : powI b e = 0 := if_neg h
theorem powI_bd (b e : Int) : 0 ≤ powI b e ∧ powI b e < 2147483579 := by
  unfold powI
  split
  · have := pw_lt b.toNat e.toNat; unfold P at this; omega
  · omega
theorem okQ_true {x : Int} (h0 : 0 ≤ x) (h1 : x < 1073741789) : okQ x = true := decide_eq_true ⟨h0, h1⟩
theorem okQ_false {x : Int} (h : x < 0 ∨ 1073741789 ≤ x) : okQ x = false := decide_eq_false (by omega)
theorem cmI_bd (v r : Int) : 0 ≤ cmI v r ∧ cmI v r < 2147483579 := by
  unfold cmI
  split
  · have := cm_lt v.toNat r.toNat; unfold P at this; omega
  · omega
theorem adI_bd (a b : Int) : 0 ≤ adI a b ∧ adI a b < 2147483579 := by
  unfold adI
  split
  · omega
  · omega
theorem cmI_pow {v r : Int} (h0 : 0 ≤ v) (h1 : v < 1073741789) (h2 : 0 ≤ r) (h3 : r < 1073741789) : powI 4 v * powI 9 r % 2147483579 = cmI v r := by
  unfold cmI
  rw [okQ_true h0 h1, okQ_true h2 h3, powI_pos (by decide) (by decide) h0, powI_pos (by decide) (by decide) h2]
  simp only [Bool.and_self, if_true]
  unfold cm
  simp
end Wage26
