/-
  Comparing and asking: Same, Has, short, far.
-/
import Derived.Test.YtngbkpplkkpagaaEq
import Derived.Deep.QuietTactic
import Derived.BigQuiet
import Derived.WalkLawsBesides
namespace Go.Proofs.Ytngbkpplkkpagaa
open Go.RowKit Go.Proofs WageMem WageSpan

theorem takes_eq {α : Type} {xs ys : List α} {k : Nat} {x y : α} (hx : xs[k]? = some x) (hy : ys[k]? = some y) (h : xs.take k = ys.take k) (hxy : x = y) : xs.take (k + 1) = ys.take (k + 1) := by
  rw [List.take_add_one, List.take_add_one, hx, hy, h, hxy]

set_option maxHeartbeats 1000000 in
theorem same_any (A B : Option Addr) (n m c e : Nat) (xs ys : List Sp) (w : World) (ha : Spans w A n c xs) (hb : Spans w B m e ys) :
    Calls Try.prog 14 #[.slice A n c, .slice B m e] w fun r w' => r = .returned (.bool (decide (xs = ys))) ∧ ∃ q, w' = w.drewN q := by
  have hn := ha.1
  have hm := hb.1
  have hnm := ha.le
  by_cases hne : n = m
  · subst hne
    have t0 : ((n : Int) != (n : Int)) = false := by simp
    have HA := Lib.hid ha
    have HB := Lib.hid hb
    have HN := Lib.hid hn
    have HM := Lib.hid hm
    clear ha hb hn hm
    go_enter Try.func14, Try.ntmps14
    go_wp2_with fail
    go_loopw [5] (fun i wr => ∃ k : Nat, k ≤ n ∧ i = .int .i64 k ∧ Hid (xs.take k = ys.take k) ∧ ∃ q, wr = w.drewN q) (fun i _ => n - (intOf i).toNat)
    case atStart => exact ⟨0, Nat.zero_le _, rfl, rfl, 0, rfl⟩
    case round =>
      obtain ⟨k, hk, rfl, HE, q, rfl⟩ := hrel
      by_cases hlt : k < n
      · obtain ⟨b1, o1, x, rfl, hx, c1, c2, bx1, bx2⟩ := HA.out.at_ hlt
        obtain ⟨b2, o2, y, rfl, hy, c3, c4, by1, by2⟩ := HB.out.at_ hlt
        have i0 : (0 : Int) ≤ (k : Int) := by omega
        have i1 : (k : Int) < (n : Int) := by omega
        have HX := Lib.hid hx
        have HY := Lib.hid hy
        obtain ⟨x1, x2⟩ := x
        obtain ⟨y1, y2⟩ := y
        clear hx hy
        simp only at c1 c2 c3 c4
        by_cases hxy : (x1, x2) = (y1, y2)
        · have HXY := Lib.hid hxy
          have q1 := neq33
          have q2 := guard33
          have q3 : eqS x1 x2 y1 y2 = true := decide_eq_true hxy
          clear hxy
          go_wp2_with fail
          go_quiet (fail)
          go_wp2_with fail
          go_roundw
          case rel => exact ⟨k + 1, by omega, by go_num, takes_eq HX.out HY.out HE.out HXY.out, _, rfl⟩
          case measure => simp [intOf]; omega
        · have HNE : Hid (xs ≠ ys) := by unfold Hid; intro h; rw [h, HY.out] at HX; have := HX.out; injection this with this; exact hxy this.symm
          have q1 := neq33
          have q2 := guard33
          have q3 : eqS x1 x2 y1 y2 = false := decide_eq_false hxy
          clear hxy
          go_wp2_with fail
          go_quiet (fail)
          go_wp2_with fail
          go_ret
          exact ⟨by rw [decide_eq_false HNE.out]; rfl, _, World.drewN_drewN _ _ _⟩
      · have hfin : Hid (xs = ys) := by
          have := HE.out
          rw [List.take_of_length_le (by rw [HN.out]; omega), List.take_of_length_le (by rw [HM.out]; omega)] at this
          exact this
        go_wp2_with fail
        go_ret
        exact ⟨by rw [decide_eq_true hfin.out]; rfl, _, rfl⟩
  · have t0 : ((n : Int) != (m : Int)) = true := by rw [bne_iff_ne]; omega
    have HNE : Hid (xs ≠ ys) := by unfold Hid; intro h; rw [h] at hn; omega
    clear hn hm
    go_enter Try.func14, Try.ntmps14
    go_wp2
    go_ret
    exact ⟨by rw [decide_eq_false HNE.out]; rfl, 0, rfl⟩
end Go.Proofs.Ytngbkpplkkpagaa
