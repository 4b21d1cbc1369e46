/-
  The laws of the commitment layer, each walked once.
-/
import Derived.Test.YtidjelhbliekbaaDoorHead
import Derived.Test.YtidjelhbliekbaaDoorRefs
namespace Go.Proofs.YtidjelhbliekbaaDoor
open Go.RowKit Go.Shelf Go.Proofs Wage26

theorem pick_val {w : World} (c n x : Int) (h0 : -9223372036854775808 ≤ c) (h1 : c ≤ 9223372036854775807) (hn : 1 ≤ n) (hn' : n ≤ 9223372036854775807) (hx : pickI c n = x) :
    Calls Tryd.prog 10 #[.int .i64 c, .int .i64 n] w fun e w' => e = .returned (.int .i64 x) ∧ w = w' := by
  subst hx; exact pick_any c n w h0 h1 hn hn'
theorem pick_ex (c : Int) {n : Int} (hn : 1 ≤ n) : ∃ x, pickI c n = x ∧ 0 ≤ x ∧ x < n := ⟨_, rfl, pickI_bd c (by omega)⟩

theorem powI_ex (b e : Int) : ∃ x, powI b e = x ∧ 0 ≤ x ∧ x < 2147483579 := ⟨_, rfl, powI_bd b e⟩
theorem powI_one_le {b e : Int} (h0 : 1 ≤ b) (h1 : b < 2147483579) (h2 : 0 ≤ e) : 1 ≤ powI b e := by
  rw [powI_pos (by omega) h1 h2]
  have := pw_pos (b := b.toNat) (by omega) (by unfold P; omega) e.toNat
  omega
theorem powI_add {b m n : Int} (h0 : 0 ≤ b) (h1 : b < 2147483579) (hm : 0 ≤ m) (hn : 0 ≤ n) : powI b (m + n) = powI b m * powI b n % 2147483579 := by
  rw [powI_pos h0 h1 hm, powI_pos h0 h1 hn, powI_pos h0 h1 (by omega), show (m + n).toNat = m.toNat + n.toNat by omega, ← pw_add]
  simp
theorem powI_mul {b m n : Int} (h0 : 0 ≤ b) (h1 : b < 2147483579) (hm : 0 ≤ m) (hn : 0 ≤ n) : powI (powI b m) n = powI b (m * n) := by
  have hb := powI_bd b m
  rw [powI_pos hb.1 hb.2 hn, powI_pos h0 h1 hm, powI_pos h0 h1 (Int.mul_nonneg hm hn), Int.toNat_natCast, pw_pw]
  congr 2
  obtain ⟨m, rfl⟩ := Int.eq_ofNat_of_zero_le hm
  obtain ⟨n, rfl⟩ := Int.eq_ofNat_of_zero_le hn
  rw [← Int.natCast_mul]; rfl
theorem powI_fermat {b : Int} (h0 : 1 ≤ b) (h1 : b < 2147483579) : powI b 2147483578 = 1 := by
  rw [powI_pos (by omega) h1 (by decide)]
  have := pw_fermat (b := b.toNat) (by omega) (by unfold P; omega)
  rw [show (2147483578 : Int).toNat = P - 1 from rfl, this]; rfl
theorem powI_Q {b : Int} (h0 : 1 ≤ b) (h1 : b < 2147483579) : powI b 1073741789 = 1 ∨ powI b 1073741789 = 2147483578 := by
  rw [powI_pos (by omega) h1 (by decide)]
  rcases pw_Q (b := b.toNat) (by omega) (by unfold P; omega) with h | h
  · left; rw [show (1073741789 : Int).toNat = Q from rfl, h]; rfl
  · right; rw [show (1073741789 : Int).toNat = Q from rfl, h]; rfl
theorem sq_bd {m n : Int} (h0 : 0 ≤ m) (h1 : m < 1073741824) (h2 : 0 ≤ n) (h3 : n < 1073741824) : 0 ≤ m * n ∧ m * n ≤ 1152921504606846976 := by
  refine ⟨Int.mul_nonneg h0 h2, ?_⟩
  have := Int.mul_le_mul (a := m) (b := n) (c := 1073741824) (d := 1073741824) (by omega) (by omega) h2 (by omega)
  omega

set_option maxRecDepth 100000 in
set_option maxHeartbeats 4000000 in
theorem powers_true (base a b : Int) (w : World) (hg : Gen w) (b0 : -9223372036854775808 ≤ base) (b1 : base ≤ 9223372036854775807) (a0 : -9223372036854775808 ≤ a) (a1 : a ≤ 9223372036854775807)
    (c0 : -9223372036854775808 ≤ b) (c1 : b ≤ 9223372036854775807) :
    Calls Tryd.prog 4 #[.int .i64 base, .int .i64 a, .int .i64 b] w fun e w' => e = .returned (.bool true) ∧ Grew w w' := by
  obtain ⟨p, hp, p0, p1⟩ := pick_ex base (n := 2147483578) (by decide)
  obtain ⟨m, hm, m0, m1⟩ := pick_ex a (n := 1073741824) (by decide)
  obtain ⟨n, hn, n0, n1⟩ := pick_ex b (n := 1073741824) (by decide)
  have HP := Lib.hid hp
  have HM := Lib.hid hm
  have HN := Lib.hid hn
  clear hp hm hn
  obtain ⟨y, hy, y0, y1⟩ := powI_ex (1 + p) m
  obtain ⟨z, hz, z0, z1⟩ := powI_ex (1 + p) n
  obtain ⟨q, hq, q0, q1⟩ := powI_ex (1 + p) 1073741789
  have yp : 1 ≤ y := by rw [← hy]; exact powI_one_le (by omega) (by omega) m0
  have hadd : powI (1 + p) (m + n) = y * z % 2147483579 := by rw [powI_add (by omega) (by omega) m0 n0, hy, hz]
  have hmul : powI (1 + p) (m * n) = powI y n := by rw [← powI_mul (by omega) (by omega) m0 n0, hy]
  have hfer : powI (1 + p) 2147483578 = 1 := powI_fermat (by omega) (by omega)
  have hqq : q = 1 ∨ q = 2147483578 := by rw [← hq]; exact powI_Q (by omega) (by omega)
  obtain ⟨yn, hyn, _, _⟩ := powI_ex y n
  rw [hyn] at hmul
  have HY := Lib.hid hy
  have HZ := Lib.hid hz
  have HQ := Lib.hid hq
  have HA := Lib.hid hadd
  have HU := Lib.hid hmul
  have HF := Lib.hid hfer
  have HYN := Lib.hid hyn
  clear hy hz hq hadd hmul hfer hyn
  have t := mul_bd (r := y) (q := z) y0 y1 z0 z1
  obtain ⟨t0, t1⟩ := t
  have s := sq_bd m0 m1 n0 n1
  obtain ⟨s0, s1⟩ := s
  have hq' : Hid (q = 1 ∨ q = 2147483578) := hqq
  clear hqq
  go_enter Tryd.func4, Tryd.ntmps4
  go_wp2_with fail
  refine (head_true w hg).mono ?_
  rintro e w1 ⟨rfl, k1⟩
  go_wp2_with fail
  refine (pick_val base 2147483578 p b0 b1 (by decide) (by decide) HP.out).mono ?_
  rintro e w' ⟨rfl, rfl⟩
  go_wp2_with fail
  refine (pick_val a 1073741824 m a0 a1 (by decide) (by decide) HM.out).mono ?_
  rintro e w' ⟨rfl, rfl⟩
  go_wp2_with fail
  refine (pick_val b 1073741824 n c0 c1 (by decide) (by decide) HN.out).mono ?_
  rintro e w' ⟨rfl, rfl⟩
  go_wp2_with fail
  refine (power_val (1 + p) m y (by omega) HY.out).mono ?_
  rintro e w2 ⟨rfl, k2⟩
  go_wp2_with fail
  refine (power_val (1 + p) n z (by omega) HZ.out).mono ?_
  rintro e w3 ⟨rfl, k3⟩
  go_wp2_with fail
  refine (power_val (1 + p) 1073741789 q (by decide) HQ.out).mono ?_
  rintro e w4 ⟨rfl, k4⟩
  go_wp2_with fail
  refine (power_val (1 + p) (m + n) _ (by omega) HA.out).mono ?_
  rintro e w5 ⟨rfl, k5⟩
  go_wp2_with fail
  refine (power_val y n yn (by omega) HYN.out).mono ?_
  rintro e w6 ⟨rfl, k6⟩
  go_wp2_with fail
  refine (power_val (1 + p) (m * n) yn (by omega) HU.out).mono ?_
  rintro e w7 ⟨rfl, k7⟩
  go_wp2_with fail
  refine (power_val (1 + p) 2147483578 1 (by decide) HF.out).mono ?_
  rintro e w8 ⟨rfl, k8⟩
  have kk := k1.trans (k2.trans (k3.trans (k4.trans (k5.trans (k6.trans (k7.trans k8))))))
  rcases hq'.out with h | h
  · have e1 : (q == 1) = true := by rw [h]; rfl
    go_wp2_with fail
    go_ret
    exact ⟨rfl, kk⟩
  · have e1 : (q == 1) = false := by rw [h]; rfl
    have e2 : (q == 2147483578) = true := by rw [h]; rfl
    go_wp2_with fail
    go_ret
    exact ⟨rfl, kk⟩
end Go.Proofs.YtidjelhbliekbaaDoor
