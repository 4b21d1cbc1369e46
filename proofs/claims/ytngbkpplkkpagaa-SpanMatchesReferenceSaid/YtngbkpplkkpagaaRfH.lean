/-
  The reference's functions on spans: Size.
-/
import Derived.Test.YtngbkpplkkpagaaRfE
namespace Go.Proofs.Ytngbkpplkkpagaa
open Go.RowKit Go.Proofs WageMem WageSpan

set_option maxHeartbeats 1000000 in
theorem rsize_any (A : Option Addr) (n c : Nat) (ss : List Sp) (w : World) (h : Spans w A n c ss) (hn2 : n ≤ 2000) :
    Calls Try.prog 26 #[.slice A n c] w fun r w' => r = .returned (.int .i64 (sizeS (nrm ss))) ∧ Grew w w' := by
  have hnm := nrm_normal ss
  obtain ⟨ys, hys⟩ : ∃ ys, nrm ss = ys := ⟨_, rfl⟩
  rw [hys] at hnm ⊢
  rw [← rnorm_eq] at hys
  have HY := Lib.hid hys
  have HNM := Lib.hid hnm
  have HH := Lib.hid h
  clear hys hnm h
  go_enter Try.func26, Try.ntmps26
  go_wp2_with fail
  refine (rnormal_val HH.out hn2 HY.out).mono ?_
  rintro e1 w1 ⟨B, m, e, rfl, hB, g1⟩
  have HB := Lib.hid hB
  have hml := hB.le
  clear hB HH HY
  go_wp2_with fail
  go_loopw [4, 5] (fun v i wr => ∃ (k : Nat) (z : Int), k ≤ m ∧ v = .int .i64 z ∧ i = .int .i64 k ∧ Hid (sizeS (ys.take k) = z) ∧ Grew w1 wr) (fun _ i _ => m - (intOf i).toNat)
  case atStart => exact ⟨0, 0, Nat.zero_le _, rfl, rfl, rfl, Grew.refl _⟩
  case round =>
    obtain ⟨k, z, hk, rfl, rfl, HZ, hg⟩ := hrel
    by_cases hlt : k < m
    · obtain ⟨b2, o2, y, rfl, hy, c3, c4, by1, by2⟩ := (HB.out.grew hg).at_ hlt
      have h1 := size_take hy
      have h2 := size_bd (normal_take HNM.out k)
      have h3 := size_bd (normal_take HNM.out (k + 1))
      have hpy := proper_iff.1 (HNM.out.1 y (List.mem_of_getElem? hy))
      rw [h1, HZ.out] at h3
      rw [HZ.out] at h1 h2
      obtain ⟨y1, y2⟩ := y
      simp only at c3 c4 h1 h3 hpy
      have H1 := Lib.hid h1
      have i0 : (0 : Int) ≤ (k : Int) := by omega
      have i1 : (k : Int) < (m : Int) := by omega
      clear hy h1 by1 by2
      go_wp2_with fail
      go_quiet (fail)
      go_wp2_with fail
      go_roundw
      case rel => exact ⟨k + 1, z + (y2 - y1), by omega, rfl, by go_num, H1, hg.drewN _⟩
      case measure => simp [intOf]; omega
    · have hfin : Hid (sizeS ys = z) := by
        have := HZ.out
        rw [List.take_of_length_le (by rw [HB.out.1]; omega)] at this
        exact this
      go_wp2_with fail
      go_ret
      exact ⟨by rw [hfin.out]; rfl, g1.trans hg⟩

theorem rsize_val {A : Option Addr} {n c : Nat} {ss : List Sp} {w : World} {z : Int} (h : Spans w A n c ss) (hn2 : n ≤ 2000) (hz : sizeS (nrm ss) = z) :
    Calls Try.prog 26 #[.slice A n c] w fun r w' => r = .returned (.int .i64 z) ∧ Grew w w' := by subst hz; exact rsize_any A n c ss w h hn2
end Go.Proofs.Ytngbkpplkkpagaa
