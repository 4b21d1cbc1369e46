/-
  The reference functions Valid and Same.
-/
import Derived.Test.YtneipacdpojjkaaHead
namespace Go.Proofs.Ytneipacdpojjkaa
open Go.RowKit Go.Proofs WageMem WageDisk

set_option maxRecDepth 100000 in
set_option maxHeartbeats 4000000 in
theorem rvalid_any (v : Value) (d : Ds) (w : World) (h : Disk w v d) :
    Calls Try.prog 31 #[v] w fun e w' => e = .returned (.bool (validB d)) ∧ Grew w w' := by
  obtain ⟨A, n, c, A', n', c', rfl, hB, hW⟩ := h.form
  have hn := hB.1
  have hn' := hW.1
  by_cases h1 : 65536 < n
  · have d1 : decide (65536 < (n : Int)) = true := decide_eq_true (by omega)
    have E : Hid (validB d = false) := by unfold Hid validB; rw [decide_eq_false (by omega)]; rfl
    clear hn hn'
    go_enter Try.func31, Try.ntmps31
    go_wp2
    go_ret
    exact ⟨by rw [E.out]; rfl, (Grew.refl _).alloc _⟩
  by_cases h2 : 64 < n'
  · have d1 : decide (65536 < (n : Int)) = false := decide_eq_false (by omega)
    have d2 : decide (64 < (n' : Int)) = true := decide_eq_true (by omega)
    have E : Hid (validB d = false) := by unfold Hid validB; rw [decide_eq_false (by omega)]; rfl
    clear hn hn'
    go_enter Try.func31, Try.ntmps31
    go_wp2
    go_ret
    exact ⟨by rw [E.out]; rfl, (Grew.refl _).alloc _⟩
  have d1 : decide (65536 < (n : Int)) = false := decide_eq_false (by omega)
  have d2 : decide (64 < (n' : Int)) = false := decide_eq_false (by omega)
  have E : Hid (validB d = allIn d n') := by
    unfold Hid validB allIn; rw [decide_eq_true (by omega), ← hn', List.take_length]; rfl
  have HN := Lib.hid hn
  have HN' := Lib.hid hn'
  clear hn hn'
  go_enter Try.func31, Try.ntmps31
  go_wp2
  obtain ⟨w0, hw0⟩ : ∃ w0, w0 = w.alloc (.cells #[.slice A n c, .slice A' n' c'] 25) := ⟨_, rfl⟩
  have g0 : Grew w w0 := by rw [hw0]; exact (Grew.refl w).alloc _
  have b0 : w0.cell? ⟨w.heap.size, 0, none⟩ = some (.slice A n c) := by rw [hw0]; simp
  have b1 : w0.cell? ⟨w.heap.size, 1, none⟩ = some (.slice A' n' c') := by rw [hw0]; simp
  rw [← hw0]
  clear hw0
  go_loopw [3] (fun i wr => ∃ k : Nat, k ≤ n' ∧ i = .int .i64 k ∧ allIn d k = true ∧ ∃ q, wr = w0.drewN q) (fun i _ => n' - (intOf i).toNat)
  case atStart => exact ⟨0, Nat.zero_le _, rfl, by unfold allIn; rw [List.take_zero]; rfl, 0, rfl⟩
  case round =>
    obtain ⟨k, hk, rfl, hin, q, rfl⟩ := hrel
    have HI := Lib.hid hin
    clear hin
    by_cases hlt : k < n'
    · obtain ⟨x, hx⟩ : ∃ x, d.pe[k]? = some x := ⟨_, List.getElem?_eq_getElem (by rw [HN'.out]; exact hlt)⟩
      have hs := allIn_succ hx
      obtain ⟨b, o, rfl, hc⟩ := (hW.grew g0).2.2.2.2 (by omega)
      obtain ⟨c1, x0, x1, Ax, nx, cx, c2, hbx⟩ := hc k x hx
      have hcx : nx ≤ 9223372036854775807 := Nat.le_trans hbx.2.1 hbx.2.2.1
      rw [hbx.1, HN.out, HI.out, Bool.true_and] at hs
      clear hc hx hbx
      generalize x.off = xo at c1 x0 x1 hs
      have i0 : (0 : Int) ≤ (k : Int) := by omega
      have i1 : (k : Int) < (n' : Int) := by omega
      by_cases q1 : xo < 0
      · have t1 : decide (xo < 0) = true := decide_eq_true q1
        have HF : Hid (allIn d (k + 1) = false) := by unfold Hid; rw [hs]; unfold insideB; rw [decide_eq_false_iff_not]; omega
        clear hs
        go_wp2_with fail
        go_quiet (fail)
        go_wp2_with fail
        go_ret
        exact ⟨by rw [E.out, allIn_false HF.out (by omega)]; rfl, (g0.drewN _).drewN _⟩
      · have t1 : decide (xo < 0) = false := decide_eq_false q1
        by_cases q2 : (n : Int) - (nx : Int) < xo
        · have t2 : decide ((n : Int) - (nx : Int) < xo) = true := decide_eq_true q2
          have HF : Hid (allIn d (k + 1) = false) := by unfold Hid; rw [hs]; unfold insideB; rw [decide_eq_false_iff_not]; omega
          clear hs
          have e1 : IntKind.i64.wrap ((n : Int) - (nx : Int)) = (n : Int) - (nx : Int) := IntWalk.i64_in _ (by omega)
          go_wp2_with fail
          go_quiet (fail)
          clear e1
          go_wp2_with fail
          go_ret
          exact ⟨by rw [E.out, allIn_false HF.out (by omega)]; rfl, (g0.drewN _).drewN _⟩
        · have t2 : decide ((n : Int) - (nx : Int) < xo) = false := decide_eq_false q2
          have HF : Hid (allIn d (k + 1) = true) := by unfold Hid; rw [hs]; unfold insideB; rw [decide_eq_true_iff]; omega
          clear hs
          have e1 : IntKind.i64.wrap ((n : Int) - (nx : Int)) = (n : Int) - (nx : Int) := IntWalk.i64_in _ (by omega)
          go_wp2_with fail
          go_quiet (fail)
          clear e1
          go_wp2_with fail
          go_roundw
          case rel => exact ⟨k + 1, by omega, by go_num, HF.out, _, rfl⟩
          case measure => simp [intOf]; omega
    · obtain rfl : k = n' := by omega
      go_wp2_with fail
      go_ret
      exact ⟨by rw [E.out, HI.out]; rfl, g0.drewN _⟩
end Go.Proofs.Ytneipacdpojjkaa
