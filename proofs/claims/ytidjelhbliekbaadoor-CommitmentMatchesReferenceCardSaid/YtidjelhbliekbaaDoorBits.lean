/-
  The iterator over the bits of a number, and the power modulo the prime.
-/
import Derived.RangeFuncNested
import Derived.RangeFuncBound
import Derived.RangeFuncCalls
import Derived.RangeFuncLeaves
import Derived.Shelf.Abstract
import Derived.Shelf.RegionOpen
import Derived.WalkKit
import Derived.OwnWalkIn
import Derived.TacticsInMore
import Derived.LoopNIn
import Derived.LoopIn
import Derived.Outline
import Derived.Laws.BitsAllLaws
import Derived.Laws.BitsLemmas
import Derived.Test.YtidjelhbliekbaaDoorProg
import Derived.Test.YtidjelhbliekbaaDoorLoop
import Derived.Test.YtidjelhbliekbaaDoorMath
namespace Go.Proofs.YtidjelhbliekbaaDoor
open Go.RowKit Go.Shelf Go.Proofs
attribute [local go_sem] Oper.semAt_some

def StepAt (Bn : Nat) (A B : World) : Prop := ∃ v, B = A.setCell ⟨Bn, 0, none⟩ v
def KeepAt (Bn : Nat) (A B : World) : Prop := B.cell? ⟨Bn, 0, none⟩ = A.cell? ⟨Bn, 0, none⟩ ∧ B.frozen? ⟨Bn, 0, none⟩ = A.frozen? ⟨Bn, 0, none⟩

def bitsOf (n : Nat) : List Bool := if h : n = 0 then [] else (n % 2 == 1) :: bitsOf (n / 2)
termination_by n
decreasing_by omega

theorem bitsOf_zero : bitsOf 0 = [] := by unfold bitsOf; simp
theorem bitsOf_pos {n : Nat} (h : 0 < n) : bitsOf n = (n % 2 == 1) :: bitsOf (n / 2) := by
  conv => lhs; unfold bitsOf
  rw [dif_neg (by omega)]

theorem and_one (a : Nat) (ha : a ≤ 9223372036854775807) : (bits .and .i64 (a : Int) 1 == 1) = (a % 2 == 1) := by
  have h1 : (BitVec.ofInt 64 (a : Int)).toNat = a := by
    rw [BitVec.ofInt_natCast, BitVec.toNat_ofNat]; exact Nat.mod_eq_of_lt (by omega)
  have h : bits .and .i64 (a : Int) 1 = ((a % 2 : Nat) : Int) := by
    show IntKind.i64.wrap ((BitVec.ofInt 64 (a : Int) &&& BitVec.ofInt 64 ((1 : Nat) : Int)).toNat : Int) = _
    rw [BitVec.toNat_and, h1, BitVec.ofInt_natCast, BitVec.toNat_ofNat, IntKind.wrap_i64, show 1 % 2 ^ 64 = 1 from rfl, Nat.and_one_is_mod]
    omega
  rw [h]
  rcases Nat.mod_two_eq_zero_or_one a with h2 | h2 <;> rw [h2] <;> rfl

/-- The number in the cell. -/
def leftAt (Bn : Nat) (w : World) : Nat := match w.cell? ⟨Bn, 0, none⟩ with | some (.int _ q) => q.toNat | _ => 0

set_option maxRecDepth 100000 in
set_option maxHeartbeats 1000000 in
theorem bits1_runs (m : Nat) (Bn n : Nat) (W : World) (hn : n ≤ 9223372036854775807) (hc : W.cell? ⟨Bn, 0, none⟩ = some (.int .i64 n)) (hf : W.frozen? ⟨Bn, 0, none⟩ = false) :
    IterRuns Fence.wide m Tryd.prog 22 #[.pointer (some ⟨Bn, 0, none⟩)] (fun b : Bool => #[.bool b]) (StepAt Bn) (KeepAt Bn) (· = bitsOf n) (bitsOf n).length W := by
  intro l J hJ hY h0
  refine callsIn_of_wp Tryd.func22 rfl trivial ?_ rfl
  simp only [Tryd.ntmps22, List.size_toArray, List.length_cons, List.length_nil, Nat.reduceAdd, Nat.reduceSub, Array.replicate_succ, Array.replicate_zero, List.push_toArray, List.append_toArray, List.nil_append, List.cons_append]
  gi_wp2
  gi_loopw [3] (fun _ wr => ∃ (pre : List Bool) (cur : Nat), cur ≤ n ∧ wr.cell? ⟨Bn, 0, none⟩ = some (.int .i64 cur) ∧ wr.frozen? ⟨Bn, 0, none⟩ = false ∧ pre ++ bitsOf cur = bitsOf n ∧ J pre wr)
    (fun _ wr => leftAt Bn wr)
  case atStart => exact ⟨[], n, Nat.le_refl _, hc, hf, rfl, h0⟩
  case round =>
    obtain ⟨pre, cur, hle, hcell, hfr, hbits, hj⟩ := hrel
    have HB : Hid (pre ++ bitsOf cur = bitsOf n) := hbits
    clear hbits hc hf h0
    rcases Nat.eq_zero_or_pos cur with rfl | hpos
    · gi_wp2
      go_end0
      exact ⟨⟨_, rfl⟩, pre, by have := HB.out; rwa [bitsOf_zero, List.append_nil] at this, hj⟩
    · have hlen : pre.length < (bitsOf n).length := by have := HB.out; rw [bitsOf_pos hpos] at this; rw [← this]; simp
      obtain ⟨fn, tmps, assign, body, hy, hR⟩ := hY pre (bits .and .i64 (cur : Int) 1 == 1) wr hj hlen
      clear hlen
      gi_wp2
      refine ⟨(fun h => by cases h), ?_⟩
      refine hR.mono ?_
      rintro e W3 ⟨rfl, hj3, hk3⟩
      have hcell3 := hk3.1.trans hcell
      have hfr3 := hk3.2.trans hfr
      clear hR hy
      gi_wp2
      go_roundw
      case rel =>
        rw [and_one cur (by omega)] at hj3
        refine ⟨pre ++ [cur % 2 == 1], cur / 2, by omega, ?_, ?_, ?_, hJ _ _ _ hj3 ⟨_, rfl⟩⟩
        · exact World.cell?_setCell_same' _ _ _ (by rw [hcell3]; rfl)
        · rw [World.frozen?_setCell]; exact hfr3
        · have := HB.out
          rw [bitsOf_pos hpos] at this
          rw [← this, List.append_assoc]; rfl
      case measure =>
        have h1 : (W3.setCell ⟨Bn, 0, none⟩ (.int .i64 ((cur : Int) / 2))).cell? ⟨Bn, 0, none⟩ = some (.int .i64 ((cur : Int) / 2)) := World.cell?_setCell_same' _ _ _ (by rw [hcell3]; rfl)
        unfold leftAt
        rw [h1, hcell]
        simp only
        omega

theorem bits_any (k : Int) (w : World) :
    Calls Tryd.prog 21 #[.int .i64 k] w fun e w' => e = .returned (.func (.func 22) #[] #[.pointer (some ⟨w.heap.size, 0, none⟩)]) ∧ w' = w.alloc (.cells #[.int .i64 k] 3) := by
  go_enter Tryd.func21, Tryd.ntmps21
  go_wp2
  go_ret
  exact ⟨rfl, rfl⟩

/-- The value of bits, the least one first. -/
def val : List Bool → Nat
  | [] => 0
  | b :: r => b.toNat + 2 * val r
theorem val_snoc (b : Bool) : ∀ l : List Bool, val (l ++ [b]) = val l + b.toNat * 2 ^ l.length
  | [] => by simp [val]
  | a :: r => by
    simp only [List.cons_append, val, val_snoc b r, List.length_cons, Nat.pow_succ, Nat.mul_add, Nat.add_assoc]
    rw [Nat.mul_left_comm, ← Nat.mul_comm (2 ^ r.length) 2]
theorem val_bitsOf : ∀ n, val (bitsOf n) = n := by
  intro n
  induction n using Nat.strongRecOn with
  | _ n ih =>
    rcases Nat.eq_zero_or_pos n with rfl | h
    · rw [bitsOf_zero]; rfl
    · rw [bitsOf_pos h, val, ih (n / 2) (by omega)]
      rcases Nat.mod_two_eq_zero_or_one n with h2 | h2 <;> simp [h2] <;> omega

end Go.Proofs.YtidjelhbliekbaaDoor
