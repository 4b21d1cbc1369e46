/-
  What is well-formed, by the reference: Payment and Answer.
-/
import Derived.Test.YtaocjobbfcfleaaForm
namespace Go.Proofs.Ytaocjobbfcfleaa
open Go.RowKit Go.Proofs WageMem WageOrd WageRec WageSet

set_option maxRecDepth 100000 in
set_option maxHeartbeats 4000000 in
theorem rpay_any (p : Pay) (w : World) (hp : p.acc.size ≤ maxLen) : Calls Try.prog 33 #[.agg #[.int .i64 p.id, .string p.acc, .int .i64 p.c, .int .i64 p.d]] w fun e w' => e = .returned (.bool (payB p)) ∧ Grew w w' := by
  rcases bool_or (numB p.id) with z1 | z1
  rotate_left
  · have H1 := Lib.hid z1
    clear z1
    have HV : Hid (payB p = false) := by unfold Hid payB; rw [H1.out]; simp
    go_enter Try.func33, Try.ntmps33
    go_wp2_with (first | (go_at_call 55; ((with_reducible refine (within_num H1.out _).mono ?_); rintro e w' ⟨rfl, rfl⟩)))
    go_ret
    exact ⟨ret_bool HV.out.symm, (Grew.refl w).alloc _⟩
  have H1 := Lib.hid z1
  clear z1
  rcases bool_or (nameB p.acc) with z2 | z2
  rotate_left
  · have H2 := Lib.hid z2
    clear z2
    have HV : Hid (payB p = false) := by unfold Hid payB; rw [H2.out]; simp
    go_enter Try.func33, Try.ntmps33
    go_wp2_with (first | (go_at_call 55; ((with_reducible refine (within_num H1.out _).mono ?_); rintro e w' ⟨rfl, rfl⟩)) | (go_at_call 56; ((with_reducible refine (rname_is H2.out hp _).mono ?_); rintro e w' ⟨rfl, rfl⟩)))
    go_ret
    exact ⟨ret_bool HV.out.symm, (Grew.refl w).alloc _⟩
  have H2 := Lib.hid z2
  clear z2
  rcases bool_or (decide (p.acc = transit)) with z3 | z3
  · have H3 := Lib.hid z3
    clear z3
    have HV : Hid (payB p = false) := by unfold Hid payB; rw [H3.out]; simp
    have q3 : (p.acc.toList == [105, 110, 95, 116, 114, 97, 110, 115, 105, 116]) = true := (str_tr _).trans H3.out
    go_enter Try.func33, Try.ntmps33
    go_wp2_with (first | (go_at_call 55; ((with_reducible refine (within_num H1.out _).mono ?_); rintro e w' ⟨rfl, rfl⟩)) | (go_at_call 56; ((with_reducible refine (rname_is H2.out hp _).mono ?_); rintro e w' ⟨rfl, rfl⟩)))
    go_ret
    exact ⟨ret_bool HV.out.symm, (Grew.refl w).alloc _⟩
  have H3 := Lib.hid z3
  clear z3
  rcases bool_or (decide (p.acc = bank)) with z4 | z4
  · have H4 := Lib.hid z4
    clear z4
    have HV : Hid (payB p = false) := by unfold Hid payB; rw [H4.out]; simp
    have q3 : (p.acc.toList == [105, 110, 95, 116, 114, 97, 110, 115, 105, 116]) = false := (str_tr _).trans H3.out
    have q4 : (p.acc.toList == [97, 116, 95, 98, 97, 110, 107]) = true := (str_bk _).trans H4.out
    go_enter Try.func33, Try.ntmps33
    go_wp2_with (first | (go_at_call 55; ((with_reducible refine (within_num H1.out _).mono ?_); rintro e w' ⟨rfl, rfl⟩)) | (go_at_call 56; ((with_reducible refine (rname_is H2.out hp _).mono ?_); rintro e w' ⟨rfl, rfl⟩)))
    go_ret
    exact ⟨ret_bool HV.out.symm, (Grew.refl w).alloc _⟩
  have H4 := Lib.hid z4
  clear z4
  rcases bool_or (centB p.c) with z5 | z5
  rotate_left
  · have H5 := Lib.hid z5
    clear z5
    have HV : Hid (payB p = false) := by unfold Hid payB; rw [H5.out]; simp
    have q3 : (p.acc.toList == [105, 110, 95, 116, 114, 97, 110, 115, 105, 116]) = false := (str_tr _).trans H3.out
    have q4 : (p.acc.toList == [97, 116, 95, 98, 97, 110, 107]) = false := (str_bk _).trans H4.out
    go_enter Try.func33, Try.ntmps33
    go_wp2_with (first | (go_at_call 55; ((with_reducible refine (within_num H1.out _).mono ?_); rintro e w' ⟨rfl, rfl⟩)) | (go_at_call 55; ((with_reducible refine (within_cent H5.out _).mono ?_); rintro e w' ⟨rfl, rfl⟩)) | (go_at_call 56; ((with_reducible refine (rname_is H2.out hp _).mono ?_); rintro e w' ⟨rfl, rfl⟩)))
    go_ret
    exact ⟨ret_bool HV.out.symm, (Grew.refl w).alloc _⟩
  have H5 := Lib.hid z5
  clear z5
  rcases bool_or (dayB p.d) with z6 | z6
  rotate_left
  · have H6 := Lib.hid z6
    clear z6
    have HV : Hid (payB p = false) := by unfold Hid payB; rw [H6.out]; simp
    have q3 : (p.acc.toList == [105, 110, 95, 116, 114, 97, 110, 115, 105, 116]) = false := (str_tr _).trans H3.out
    have q4 : (p.acc.toList == [97, 116, 95, 98, 97, 110, 107]) = false := (str_bk _).trans H4.out
    go_enter Try.func33, Try.ntmps33
    go_wp2_with (first | (go_at_call 55; ((with_reducible refine (within_num H1.out _).mono ?_); rintro e w' ⟨rfl, rfl⟩)) | (go_at_call 55; ((with_reducible refine (within_cent H5.out _).mono ?_); rintro e w' ⟨rfl, rfl⟩)) | (go_at_call 55; ((with_reducible refine (within_day H6.out _).mono ?_); rintro e w' ⟨rfl, rfl⟩)) | (go_at_call 56; ((with_reducible refine (rname_is H2.out hp _).mono ?_); rintro e w' ⟨rfl, rfl⟩)))
    go_ret
    exact ⟨ret_bool HV.out.symm, (Grew.refl w).alloc _⟩
  have H6 := Lib.hid z6
  clear z6
  have HV : Hid (payB p = true) := by unfold Hid payB; rw [H1.out]; rw [H2.out, H3.out, H4.out, H5.out, H6.out]; rfl
  have q3 : (p.acc.toList == [105, 110, 95, 116, 114, 97, 110, 115, 105, 116]) = false := (str_tr _).trans H3.out
  have q4 : (p.acc.toList == [97, 116, 95, 98, 97, 110, 107]) = false := (str_bk _).trans H4.out
  go_enter Try.func33, Try.ntmps33
  go_wp2_with (first | (go_at_call 55; ((with_reducible refine (within_num H1.out _).mono ?_); rintro e w' ⟨rfl, rfl⟩)) | (go_at_call 55; ((with_reducible refine (within_cent H5.out _).mono ?_); rintro e w' ⟨rfl, rfl⟩)) | (go_at_call 55; ((with_reducible refine (within_day H6.out _).mono ?_); rintro e w' ⟨rfl, rfl⟩)) | (go_at_call 56; ((with_reducible refine (rname_is H2.out hp _).mono ?_); rintro e w' ⟨rfl, rfl⟩)))
  go_ret
  exact ⟨ret_bool HV.out.symm, (Grew.refl w).alloc _⟩
theorem rpay_val {p : Pay} {t : Bool} (h : payB p = t) (hp : p.acc.size ≤ maxLen) (w : World) : Calls Try.prog 33 #[pv p] w fun e w' => e = .returned (.bool t) ∧ Grew w w' := by
  subst h; exact rpay_any p w hp

set_option maxRecDepth 100000 in
set_option maxHeartbeats 4000000 in
theorem rans_any (a : Ans) (w : World) : Calls Try.prog 43 #[.agg #[.int .i64 a.q, .int .i64 a.id, .int .i64 a.k, .int .i64 a.c, .int .i64 a.d]] w fun e w' => e = .returned (.bool (ansB a)) ∧ Grew w w' := by
  rcases bool_or (numB a.q) with z1 | z1
  rotate_left
  · have H1 := Lib.hid z1
    clear z1
    have HV : Hid (ansB a = false) := by unfold Hid ansB; rw [H1.out]; simp
    go_enter Try.func43, Try.ntmps43
    go_wp2_with (first | (go_at_call 55; ((with_reducible refine (within_num H1.out _).mono ?_); rintro e w' ⟨rfl, rfl⟩)))
    go_ret
    exact ⟨ret_bool HV.out.symm, (Grew.refl w).alloc _⟩
  have H1 := Lib.hid z1
  clear z1
  rcases bool_or (numB a.id) with z2 | z2
  rotate_left
  · have H2 := Lib.hid z2
    clear z2
    have HV : Hid (ansB a = false) := by unfold Hid ansB; rw [H2.out]; simp
    go_enter Try.func43, Try.ntmps43
    go_wp2_with (first | (go_at_call 55; ((with_reducible refine (within_num H1.out _).mono ?_); rintro e w' ⟨rfl, rfl⟩)) | (go_at_call 55; ((with_reducible refine (within_num H2.out _).mono ?_); rintro e w' ⟨rfl, rfl⟩)))
    go_ret
    exact ⟨ret_bool HV.out.symm, (Grew.refl w).alloc _⟩
  have H2 := Lib.hid z2
  clear z2
  rcases bool_or (dayB a.d) with z3 | z3
  rotate_left
  · have H3 := Lib.hid z3
    clear z3
    have HV : Hid (ansB a = false) := by unfold Hid ansB; rw [H3.out]; simp
    rcases bool_or (decide (1 ≤ a.k) && decide (a.k ≤ 4)) with z5 | z5
    · have H5 := Lib.hid z5
      clear z5
      go_enter Try.func43, Try.ntmps43
      go_wp2_with (first | (go_at_call 55; ((with_reducible refine (within_num H1.out _).mono ?_); rintro e w' ⟨rfl, rfl⟩)) | (go_at_call 55; ((with_reducible refine (within_num H2.out _).mono ?_); rintro e w' ⟨rfl, rfl⟩)) | (go_at_call 55; ((with_reducible refine (within_kind H5.out _).mono ?_); rintro e w' ⟨rfl, rfl⟩)) | (go_at_call 55; ((with_reducible refine (within_day H3.out _).mono ?_); rintro e w' ⟨rfl, rfl⟩)))
      go_ret
      exact ⟨ret_bool HV.out.symm, (Grew.refl w).alloc _⟩
    · have H5 := Lib.hid z5
      clear z5
      go_enter Try.func43, Try.ntmps43
      go_wp2_with (first | (go_at_call 55; ((with_reducible refine (within_num H1.out _).mono ?_); rintro e w' ⟨rfl, rfl⟩)) | (go_at_call 55; ((with_reducible refine (within_num H2.out _).mono ?_); rintro e w' ⟨rfl, rfl⟩)) | (go_at_call 55; ((with_reducible refine (within_kind H5.out _).mono ?_); rintro e w' ⟨rfl, rfl⟩)) | (go_at_call 55; ((with_reducible refine (within_day H3.out _).mono ?_); rintro e w' ⟨rfl, rfl⟩)))
      go_ret
      exact ⟨ret_bool HV.out.symm, (Grew.refl w).alloc _⟩
  have H3 := Lib.hid z3
  clear z3
  by_cases hk : a.k = 2
  · have k2 : (a.k == 2) = true := by rw [hk]; rfl
    have H5 : Hid ((decide (1 ≤ a.k) && decide (a.k ≤ 4)) = true) := by unfold Hid; rw [hk]; rfl
    rcases bool_or (centB a.c) with z4 | z4
    · have H4 := Lib.hid z4
      have HV : Hid (ansB a = true) := by unfold Hid ansB; rw [H1.out, H2.out, H3.out, if_pos (by rw [hk]; decide)]; rw [z4]; rfl
      clear z4 hk
      go_enter Try.func43, Try.ntmps43
      go_wp2_with (first | (go_at_call 55; ((with_reducible refine (within_num H1.out _).mono ?_); rintro e w' ⟨rfl, rfl⟩)) | (go_at_call 55; ((with_reducible refine (within_num H2.out _).mono ?_); rintro e w' ⟨rfl, rfl⟩)) | (go_at_call 55; ((with_reducible refine (within_kind H5.out _).mono ?_); rintro e w' ⟨rfl, rfl⟩)) | (go_at_call 55; ((with_reducible refine (within_day H3.out _).mono ?_); rintro e w' ⟨rfl, rfl⟩)) | (go_at_call 55; ((with_reducible refine (within_cent H4.out _).mono ?_); rintro e w' ⟨rfl, rfl⟩)))
      go_ret
      exact ⟨ret_bool HV.out.symm, (Grew.refl w).alloc _⟩
    · have H4 := Lib.hid z4
      have HV : Hid (ansB a = false) := by unfold Hid ansB; rw [H1.out, H2.out, H3.out, if_pos (by rw [hk]; decide)]; rw [z4]; rfl
      clear z4 hk
      go_enter Try.func43, Try.ntmps43
      go_wp2_with (first | (go_at_call 55; ((with_reducible refine (within_num H1.out _).mono ?_); rintro e w' ⟨rfl, rfl⟩)) | (go_at_call 55; ((with_reducible refine (within_num H2.out _).mono ?_); rintro e w' ⟨rfl, rfl⟩)) | (go_at_call 55; ((with_reducible refine (within_kind H5.out _).mono ?_); rintro e w' ⟨rfl, rfl⟩)) | (go_at_call 55; ((with_reducible refine (within_day H3.out _).mono ?_); rintro e w' ⟨rfl, rfl⟩)) | (go_at_call 55; ((with_reducible refine (within_cent H4.out _).mono ?_); rintro e w' ⟨rfl, rfl⟩)))
      go_ret
      exact ⟨ret_bool HV.out.symm, (Grew.refl w).alloc _⟩
  have n2 : a.k ≠ 2 := hk
  clear hk
  by_cases hk : a.k = 4
  · have k2 : (a.k == 2) = false := by rw [hk]; rfl
    have k4 : (a.k == 4) = true := by rw [hk]; rfl
    have H5 : Hid ((decide (1 ≤ a.k) && decide (a.k ≤ 4)) = true) := by unfold Hid; rw [hk]; rfl
    rcases bool_or (centB a.c) with z4 | z4
    · have H4 := Lib.hid z4
      have HV : Hid (ansB a = true) := by unfold Hid ansB; rw [H1.out, H2.out, H3.out, if_pos (by rw [hk]; decide)]; rw [z4]; rfl
      clear z4 hk
      go_enter Try.func43, Try.ntmps43
      go_wp2_with (first | (go_at_call 55; ((with_reducible refine (within_num H1.out _).mono ?_); rintro e w' ⟨rfl, rfl⟩)) | (go_at_call 55; ((with_reducible refine (within_num H2.out _).mono ?_); rintro e w' ⟨rfl, rfl⟩)) | (go_at_call 55; ((with_reducible refine (within_kind H5.out _).mono ?_); rintro e w' ⟨rfl, rfl⟩)) | (go_at_call 55; ((with_reducible refine (within_day H3.out _).mono ?_); rintro e w' ⟨rfl, rfl⟩)) | (go_at_call 55; ((with_reducible refine (within_cent H4.out _).mono ?_); rintro e w' ⟨rfl, rfl⟩)))
      go_ret
      exact ⟨ret_bool HV.out.symm, (Grew.refl w).alloc _⟩
    · have H4 := Lib.hid z4
      have HV : Hid (ansB a = false) := by unfold Hid ansB; rw [H1.out, H2.out, H3.out, if_pos (by rw [hk]; decide)]; rw [z4]; rfl
      clear z4 hk
      go_enter Try.func43, Try.ntmps43
      go_wp2_with (first | (go_at_call 55; ((with_reducible refine (within_num H1.out _).mono ?_); rintro e w' ⟨rfl, rfl⟩)) | (go_at_call 55; ((with_reducible refine (within_num H2.out _).mono ?_); rintro e w' ⟨rfl, rfl⟩)) | (go_at_call 55; ((with_reducible refine (within_kind H5.out _).mono ?_); rintro e w' ⟨rfl, rfl⟩)) | (go_at_call 55; ((with_reducible refine (within_day H3.out _).mono ?_); rintro e w' ⟨rfl, rfl⟩)) | (go_at_call 55; ((with_reducible refine (within_cent H4.out _).mono ?_); rintro e w' ⟨rfl, rfl⟩)))
      go_ret
      exact ⟨ret_bool HV.out.symm, (Grew.refl w).alloc _⟩
  have n4 : a.k ≠ 4 := hk
  clear hk
  by_cases hk : a.k = 1
  · have k2 : (a.k == 2) = false := by rw [hk]; rfl
    have k4 : (a.k == 4) = false := by rw [hk]; rfl
    have H5 : Hid ((decide (1 ≤ a.k) && decide (a.k ≤ 4)) = true) := by unfold Hid; rw [hk]; rfl
    rcases bool_or (a.c == 0) with q0 | q0
    · have HV : Hid (ansB a = true) := by unfold Hid ansB; rw [H1.out, H2.out, H3.out, if_neg (by omega)]; rw [decide_eq_true (show a.k = 1 ∨ a.k = 3 by omega), ← int_beq, q0]; rfl
      clear hk n2 n4
      go_enter Try.func43, Try.ntmps43
      go_wp2_with (first | (go_at_call 55; ((with_reducible refine (within_num H1.out _).mono ?_); rintro e w' ⟨rfl, rfl⟩)) | (go_at_call 55; ((with_reducible refine (within_num H2.out _).mono ?_); rintro e w' ⟨rfl, rfl⟩)) | (go_at_call 55; ((with_reducible refine (within_kind H5.out _).mono ?_); rintro e w' ⟨rfl, rfl⟩)) | (go_at_call 55; ((with_reducible refine (within_day H3.out _).mono ?_); rintro e w' ⟨rfl, rfl⟩)))
      go_ret
      exact ⟨ret_bool HV.out.symm, (Grew.refl w).alloc _⟩
    · have HV : Hid (ansB a = false) := by unfold Hid ansB; rw [H1.out, H2.out, H3.out, if_neg (by omega)]; rw [decide_eq_true (show a.k = 1 ∨ a.k = 3 by omega), ← int_beq, q0]; rfl
      clear hk n2 n4
      go_enter Try.func43, Try.ntmps43
      go_wp2_with (first | (go_at_call 55; ((with_reducible refine (within_num H1.out _).mono ?_); rintro e w' ⟨rfl, rfl⟩)) | (go_at_call 55; ((with_reducible refine (within_num H2.out _).mono ?_); rintro e w' ⟨rfl, rfl⟩)) | (go_at_call 55; ((with_reducible refine (within_kind H5.out _).mono ?_); rintro e w' ⟨rfl, rfl⟩)) | (go_at_call 55; ((with_reducible refine (within_day H3.out _).mono ?_); rintro e w' ⟨rfl, rfl⟩)))
      go_ret
      exact ⟨ret_bool HV.out.symm, (Grew.refl w).alloc _⟩
  have n1 : a.k ≠ 1 := hk
  clear hk
  by_cases hk : a.k = 3
  · have k2 : (a.k == 2) = false := by rw [hk]; rfl
    have k4 : (a.k == 4) = false := by rw [hk]; rfl
    have H5 : Hid ((decide (1 ≤ a.k) && decide (a.k ≤ 4)) = true) := by unfold Hid; rw [hk]; rfl
    rcases bool_or (a.c == 0) with q0 | q0
    · have HV : Hid (ansB a = true) := by unfold Hid ansB; rw [H1.out, H2.out, H3.out, if_neg (by omega)]; rw [decide_eq_true (show a.k = 1 ∨ a.k = 3 by omega), ← int_beq, q0]; rfl
      clear hk n2 n4 n1
      go_enter Try.func43, Try.ntmps43
      go_wp2_with (first | (go_at_call 55; ((with_reducible refine (within_num H1.out _).mono ?_); rintro e w' ⟨rfl, rfl⟩)) | (go_at_call 55; ((with_reducible refine (within_num H2.out _).mono ?_); rintro e w' ⟨rfl, rfl⟩)) | (go_at_call 55; ((with_reducible refine (within_kind H5.out _).mono ?_); rintro e w' ⟨rfl, rfl⟩)) | (go_at_call 55; ((with_reducible refine (within_day H3.out _).mono ?_); rintro e w' ⟨rfl, rfl⟩)))
      go_ret
      exact ⟨ret_bool HV.out.symm, (Grew.refl w).alloc _⟩
    · have HV : Hid (ansB a = false) := by unfold Hid ansB; rw [H1.out, H2.out, H3.out, if_neg (by omega)]; rw [decide_eq_true (show a.k = 1 ∨ a.k = 3 by omega), ← int_beq, q0]; rfl
      clear hk n2 n4 n1
      go_enter Try.func43, Try.ntmps43
      go_wp2_with (first | (go_at_call 55; ((with_reducible refine (within_num H1.out _).mono ?_); rintro e w' ⟨rfl, rfl⟩)) | (go_at_call 55; ((with_reducible refine (within_num H2.out _).mono ?_); rintro e w' ⟨rfl, rfl⟩)) | (go_at_call 55; ((with_reducible refine (within_kind H5.out _).mono ?_); rintro e w' ⟨rfl, rfl⟩)) | (go_at_call 55; ((with_reducible refine (within_day H3.out _).mono ?_); rintro e w' ⟨rfl, rfl⟩)))
      go_ret
      exact ⟨ret_bool HV.out.symm, (Grew.refl w).alloc _⟩
  have n3 : a.k ≠ 3 := hk
  clear hk
  have k2 : (a.k == 2) = false := by rw [beq_eq_false_iff_ne]; omega
  have k4 : (a.k == 4) = false := by rw [beq_eq_false_iff_ne]; omega
  have H5 : Hid ((decide (1 ≤ a.k) && decide (a.k ≤ 4)) = false) := by unfold Hid; rw [Bool.and_eq_false_iff, decide_eq_false_iff_not, decide_eq_false_iff_not]; omega
  have HV : Hid (ansB a = false) := by unfold Hid ansB; rw [H1.out, H2.out, H3.out, if_neg (by omega)]; rw [decide_eq_false (show ¬ (a.k = 1 ∨ a.k = 3) by omega)]; rfl
  go_enter Try.func43, Try.ntmps43
  go_wp2_with (first | (go_at_call 55; ((with_reducible refine (within_num H1.out _).mono ?_); rintro e w' ⟨rfl, rfl⟩)) | (go_at_call 55; ((with_reducible refine (within_num H2.out _).mono ?_); rintro e w' ⟨rfl, rfl⟩)) | (go_at_call 55; ((with_reducible refine (within_kind H5.out _).mono ?_); rintro e w' ⟨rfl, rfl⟩)) | (go_at_call 55; ((with_reducible refine (within_day H3.out _).mono ?_); rintro e w' ⟨rfl, rfl⟩)))
  go_ret
  exact ⟨ret_bool HV.out.symm, (Grew.refl w).alloc _⟩
theorem rans_val {a : Ans} {t : Bool} (h : ansB a = t) (w : World) : Calls Try.prog 43 #[av a] w fun e w' => e = .returned (.bool t) ∧ Grew w w' := by
  subst h; exact rans_any a w
end Go.Proofs.Ytaocjobbfcfleaa
