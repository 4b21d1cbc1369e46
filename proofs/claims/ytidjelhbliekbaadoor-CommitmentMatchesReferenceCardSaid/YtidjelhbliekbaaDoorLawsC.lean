/-
  The law of the group of commitments.
-/
import Derived.Test.YtidjelhbliekbaaDoorLawsB
namespace Go.Proofs.YtidjelhbliekbaaDoor
open Go.RowKit Go.Shelf Go.Proofs Wage26

theorem ad_hid {w : World} {a b c : Int} (ha : Hid (elI a = true)) (hb : Hid (elI b = true)) (hc : Hid (a * b % 2147483579 = c)) :
    Calls Tryd.prog 14 #[.int .i64 a, .int .i64 b] w fun e w' => e = .returned (.tuple #[.int .i64 c, .int .i64 0]) ∧ Grew w w' :=
  add_val a b c 0 (by unfold adI; rw [ha.out, hb.out]; exact hc.out) (by unfold adE; rw [ha.out, hb.out]; rfl)
theorem powI_of_el {a : Int} (h : elI a = true) : powI a 1073741789 = 1 := by
  unfold elI at h; rw [Bool.and_eq_true] at h; exact eq_of_beq h.2
theorem el_mul {a b : Int} (ha : elI a = true) (hb : elI b = true) : elI (a * b % 2147483579) = true := by
  have ba := elI_bd ha
  have bb := elI_bd hb
  have pa := powI_of_el ha
  have pb := powI_of_el hb
  obtain ⟨x, rfl⟩ := Int.eq_ofNat_of_zero_le (show 0 ≤ a by omega)
  obtain ⟨y, rfl⟩ := Int.eq_ofNat_of_zero_le (show 0 ≤ b by omega)
  have e : ((x : Int) * (y : Int) % 2147483579) = ((x * y % P : Nat) : Int) := by simp
  rw [powI_pos (by omega) (by omega) (by decide), Int.toNat_natCast] at pa pb
  have pa' : pw x Q = 1 := by have : ((pw x Q : Nat) : Int) = 1 := pa; omega
  have pb' : pw y Q = 1 := by have : ((pw y Q : Nat) : Int) = 1 := pb; omega
  have hpos := mul_pos_mod (a := x) (b := y) (by omega) (by unfold P; omega) (by omega) (by unfold P; omega)
  have hlt : x * y % P < P := Nat.mod_lt _ (by decide)
  rw [e]
  refine elI_true (by omega) (by unfold P at hlt ⊢; omega) ?_
  rw [Int.toNat_natCast]
  show pw (x * y % P) Q = 1
  rw [← pw_mul, pa', pb']; rfl
theorem el_one : elI 1 = true := elI_true (by decide) (by decide) (pw_one _)

theorem mod_assoc (a b c : Int) : a * (b * c % 2147483579) % 2147483579 = a * b % 2147483579 * c % 2147483579 := by
  rw [Int.mul_emod a, Int.emod_emod, ← Int.mul_emod, Int.mul_emod (a * b % 2147483579), Int.emod_emod, ← Int.mul_emod, Int.mul_assoc]
theorem inQ_min (v : Int) : inQ (-v % 1073741789) := ⟨by omega, by omega⟩
theorem neg_zero (v : Int) (hv : inQ v) : (v + -v % 1073741789) % 1073741789 = 0 := by have := hv.1; have := hv.2; omega

set_option maxRecDepth 100000 in
set_option maxHeartbeats 4000000 in
theorem group_true (v w r s : Int) (W : World) (hg : Gen W) (hv : in64 v) (hw : in64 w) (hr : in64 r) (hs : in64 s) :
    Calls Tryd.prog 6 #[.int .i64 v, .int .i64 w, .int .i64 r, .int .i64 s] W fun e w' => e = .returned (.bool true) ∧ Grew W w' := by
  obtain ⟨v', hpv, v0, v1⟩ := qpick_ex v
  obtain ⟨w', hpw, w0, w1⟩ := qpick_ex w
  obtain ⟨r', hpr, r0, r1⟩ := qpick_ex r
  obtain ⟨s', hps, s0, s1⟩ := qpick_ex s
  have HV := Lib.hid hpv
  have HW := Lib.hid hpw
  have HR := Lib.hid hpr
  have HS := Lib.hid hps
  clear hpv hpw hpr hps
  have qv : inQ v' := ⟨v0, v1⟩
  have qw : inQ w' := ⟨w0, w1⟩
  have qr : inQ r' := ⟨r0, r1⟩
  have qs : inQ s' := ⟨s0, s1⟩
  obtain ⟨a, ha, ea, a0, a1⟩ := cm_ex v' r' qv qr
  obtain ⟨b, hb, eb, b0, b1⟩ := cm_ex w' s' qw qs
  obtain ⟨c, hc, ec, c0, c1⟩ := cm_ex s' v' qs qv
  obtain ⟨n, hn, en, n0, n1⟩ := cm_ex (-v' % 1073741789) (-r' % 1073741789) (inQ_min _) (inQ_min _)
  obtain ⟨ab, hab⟩ : ∃ ab, Hid (a * b % 2147483579 = ab) := ⟨_, rfl⟩
  obtain ⟨bc, hbc⟩ : ∃ bc, Hid (b * c % 2147483579 = bc) := ⟨_, rfl⟩
  obtain ⟨abc, habc⟩ : ∃ abc, Hid (ab * c % 2147483579 = abc) := ⟨_, rfl⟩
  have eab : Hid (elI ab = true) := by have := el_mul ea.out eb.out; rw [hab.out] at this; exact this
  have ebc : Hid (elI bc = true) := by have := el_mul eb.out ec.out; rw [hbc.out] at this; exact this
  have hba : Hid (b * a % 2147483579 = ab) := by unfold Hid; rw [Int.mul_comm]; exact hab.out
  have habc' : Hid (a * bc % 2147483579 = abc) := by
    unfold Hid; rw [← habc.out, ← hab.out, ← hbc.out]
    exact mod_assoc a b c
  have ha1 : Hid (a * 1 % 2147483579 = a) := by unfold Hid; omega
  have han : Hid (a * n % 2147483579 = 1) := by
    unfold Hid
    have := ad_cm qv qr (inQ_min v') (inQ_min r')
    rw [neg_zero v' qv, neg_zero r' qr, ha.out, hn.out, show cmI 0 0 = 1 by decide +kernel] at this
    unfold adI at this
    rw [ea.out, en.out] at this
    exact this
  have hpow : Hid (powI a 1073741789 = 1) := powI_of_el ea.out
  have h00 : Hid (cmI 0 0 = 1) := by unfold Hid; decide +kernel
  have e1 : Hid (elI 1 = true) := el_one
  go_enter Tryd.func6, Tryd.ntmps6
  go_wp2_with fail
  refine (head_true W hg).mono ?_
  rintro e W1 ⟨rfl, k1⟩
  have g1 := hg.grew k1
  go_wp2_with fail
  refine (qpick_val hv HV).mono ?_
  rintro e _ ⟨rfl, rfl⟩
  go_wp2_with fail
  refine (qpick_val hw HW).mono ?_
  rintro e _ ⟨rfl, rfl⟩
  go_wp2_with fail
  refine (qpick_val hr HR).mono ?_
  rintro e _ ⟨rfl, rfl⟩
  go_wp2_with fail
  refine (qpick_val hs HS).mono ?_
  rintro e _ ⟨rfl, rfl⟩
  go_wp2_with fail
  refine (commit_hid g1 qv qr ha).mono ?_
  rintro e W2 ⟨rfl, k2⟩
  have g2 := g1.grew k2
  go_wp2_with fail
  refine (commit_hid g2 qw qs hb).mono ?_
  rintro e W3 ⟨rfl, k3⟩
  have g3 := g2.grew k3
  go_wp2_with fail
  refine (commit_hid g3 qs qv hc).mono ?_
  rintro e W4 ⟨rfl, k4⟩
  have g4' := g3.grew k4
  go_wp2_with fail
  refine (commit_hid g4' (inQ_min _) (inQ_min _) hn).mono ?_
  rintro e W5 ⟨rfl, k5⟩
  have g5 := g4'.grew k5
  go_wp2_with fail


  refine (commit_hid g5 (v := 0) (r := 0) ⟨by decide, by decide⟩ ⟨by decide, by decide⟩ h00).mono ?_
  rintro e W6 ⟨rfl, k6⟩
  go_wp2_with fail
  refine (ad_hid ea eb hab).mono ?_
  rintro e W7 ⟨rfl, k7⟩
  go_wp2_with fail
  refine (ad_hid eb ea hba).mono ?_
  rintro e W8 ⟨rfl, k8⟩
  go_wp2_with fail
  refine (ad_hid eb ec hbc).mono ?_
  rintro e W9 ⟨rfl, k9⟩
  go_wp2_with fail
  refine (ad_hid eab ec habc).mono ?_
  rintro e W10 ⟨rfl, k10⟩
  go_wp2_with fail
  refine (ad_hid ea ebc habc').mono ?_
  rintro e W11 ⟨rfl, k11⟩
  go_wp2_with fail
  refine (ad_hid ea e1 ha1).mono ?_
  rintro e W12 ⟨rfl, k12⟩
  go_wp2_with fail
  refine (ad_hid ea en han).mono ?_
  rintro e W13 ⟨rfl, k13⟩
  go_wp2_with fail
  refine (power_val a 1073741789 1 (by decide) hpow.out).mono ?_
  rintro e W14 ⟨rfl, k14⟩
  go_wp2_with fail
  go_ret
  exact ⟨rfl, k1.trans (k2.trans (k3.trans (k4.trans (k5.trans (k6.trans (k7.trans (k8.trans (k9.trans (k10.trans (k11.trans (k12.trans (k13.trans k14))))))))))))⟩
end Go.Proofs.YtidjelhbliekbaaDoor
