/-
  Payments, answers, standings and entries in memory; what is well-formed: goodPayment, goodAnswer and the reference's Payment and Answer.
-/
import Derived.Test.YtaocjobbfcfleaaName
import Derived.Test.YtaocjobbfcfleaaSetP
namespace Go.Proofs.Ytaocjobbfcfleaa
open Go.RowKit Go.Proofs WageMem WageOrd WageRec WageSet

def pe (p : Pay) : List Value := [.int .i64 p.id, .string p.acc, .int .i64 p.c, .int .i64 p.d]
def pv (p : Pay) : Value := .agg #[.int .i64 p.id, .string p.acc, .int .i64 p.c, .int .i64 p.d]
theorem pv_eq (p : Pay) : pv p = .agg #[.int .i64 p.id, .string p.acc, .int .i64 p.c, .int .i64 p.d] := rfl
theorem pe_ok : EncOk pe 4 where
  len := fun _ => rfl
  pos := by decide
  one := fun x u hu => by
    simp only [pe, List.mem_cons, List.not_mem_nil, or_false] at hu
    rcases hu with rfl | rfl | rfl | rfl <;> rfl
def ae (a : Ans) : List Value := [.int .i64 a.q, .int .i64 a.id, .int .i64 a.k, .int .i64 a.c, .int .i64 a.d]
def av (a : Ans) : Value := .agg #[.int .i64 a.q, .int .i64 a.id, .int .i64 a.k, .int .i64 a.c, .int .i64 a.d]
theorem av_eq (a : Ans) : av a = .agg #[.int .i64 a.q, .int .i64 a.id, .int .i64 a.k, .int .i64 a.c, .int .i64 a.d] := rfl
theorem ae_ok : EncOk ae 5 where
  len := fun _ => rfl
  pos := by decide
  one := fun x u hu => by
    simp only [ae, List.mem_cons, List.not_mem_nil, or_false] at hu
    rcases hu with rfl | rfl | rfl | rfl | rfl <;> rfl
def se (s : Sta) : List Value := [.int .i64 s.p.id, .string s.p.acc, .int .i64 s.p.c, .int .i64 s.p.d, .int .i64 s.st, .int .i64 s.pd, .int .i64 s.bk]
def sv (s : Sta) : Value := .agg #[.int .i64 s.p.id, .string s.p.acc, .int .i64 s.p.c, .int .i64 s.p.d, .int .i64 s.st, .int .i64 s.pd, .int .i64 s.bk]
theorem sv_eq (s : Sta) : sv s = .agg #[.int .i64 s.p.id, .string s.p.acc, .int .i64 s.p.c, .int .i64 s.p.d, .int .i64 s.st, .int .i64 s.pd, .int .i64 s.bk] := rfl
theorem se_ok : EncOk se 7 where
  len := fun _ => rfl
  pos := by decide
  one := fun x u hu => by
    simp only [se, List.mem_cons, List.not_mem_nil, or_false] at hu
    rcases hu with rfl | rfl | rfl | rfl | rfl | rfl | rfl <;> rfl
def ne (e : Ent) : List Value := [.int .i64 e.id, .string e.de, .string e.cr, .int .i64 e.c, .int .i64 e.d, .int .i64 e.b]
def nv (e : Ent) : Value := .agg #[.int .i64 e.id, .string e.de, .string e.cr, .int .i64 e.c, .int .i64 e.d, .int .i64 e.b]
theorem nv_eq (e : Ent) : nv e = .agg #[.int .i64 e.id, .string e.de, .string e.cr, .int .i64 e.c, .int .i64 e.d, .int .i64 e.b] := rfl
theorem ne_ok : EncOk ne 6 where
  len := fun _ => rfl
  pos := by decide
  one := fun x u hu => by
    simp only [ne, List.mem_cons, List.not_mem_nil, or_false] at hu
    rcases hu with rfl | rfl | rfl | rfl | rfl | rfl <;> rfl

theorem bool_or (b : Bool) : b = true ∨ b = false := by cases b <;> simp
theorem int_beq (a b : Int) : (a == b) = decide (a = b) := rfl
theorem str_eq (a b : ByteArray) : (a.toList == b.toList) = decide (a = b) := by
  rw [← beq_toListBytes, Bool.eq_iff_iff, Go.MapKept.bytes_beq, decide_eq_true_iff]
theorem str_tr (a : ByteArray) : (a.toList == [105, 110, 95, 116, 114, 97, 110, 115, 105, 116]) = decide (a = transit) := by
  rw [← str_eq, ByteArray.toList_eq transit]; rfl
theorem str_bk (a : ByteArray) : (a.toList == [97, 116, 95, 98, 97, 110, 107]) = decide (a = bank) := by
  rw [← str_eq, ByteArray.toList_eq bank]; rfl
theorem cent_yes {c : Int} (h : centB c = true) : decide (1 ≤ c) = true ∧ decide (c ≤ 1000000000000) = true := by
  unfold centB at h; rwa [Bool.and_eq_true] at h
theorem cent_no2 {c : Int} (h : centB c = false) (h1 : 1 ≤ c) : decide (c ≤ 1000000000000) = false := by
  unfold centB at h; rw [decide_eq_true h1, Bool.true_and] at h; exact h
set_option maxRecDepth 100000 in
set_option maxHeartbeats 1000000 in
theorem num_is {n : Int} {t : Bool} (h : (decide (0 ≤ n) && decide (n ≤ 400000000000)) = t) (w : World) : Calls Try.prog 52 #[.int .i64 n] w fun e w' => e = .returned (.bool t) ∧ w = w' := by
  subst h
  by_cases h1 : 0 ≤ n
  · have q1 : decide (0 ≤ n) = true := decide_eq_true h1
    rcases bool_or (decide (n ≤ 400000000000)) with q2 | q2
    · have HV : Hid ((decide (0 ≤ n) && decide (n ≤ 400000000000)) = true) := by unfold Hid; rw [q1, q2]; rfl
      clear h1
      go_enter Try.func52, Try.ntmps52
      go_wp2
      go_ret
      exact ⟨ret_bool HV.out.symm, rfl⟩
    · have HV : Hid ((decide (0 ≤ n) && decide (n ≤ 400000000000)) = false) := by unfold Hid; rw [q1, q2]; rfl
      clear h1
      go_enter Try.func52, Try.ntmps52
      go_wp2
      go_ret
      exact ⟨ret_bool HV.out.symm, rfl⟩
  · have q1 : decide (0 ≤ n) = false := decide_eq_false h1
    have HV : Hid ((decide (0 ≤ n) && decide (n ≤ 400000000000)) = false) := by unfold Hid; rw [q1]; rfl
    clear h1
    go_enter Try.func52, Try.ntmps52
    go_wp2
    go_ret
    exact ⟨ret_bool HV.out.symm, rfl⟩
set_option maxRecDepth 100000 in
set_option maxHeartbeats 1000000 in
theorem day_is {n : Int} {t : Bool} (h : (decide (0 ≤ n) && decide (n ≤ 36524)) = t) (w : World) : Calls Try.prog 54 #[.int .i64 n] w fun e w' => e = .returned (.bool t) ∧ w = w' := by
  subst h
  by_cases h1 : 0 ≤ n
  · have q1 : decide (0 ≤ n) = true := decide_eq_true h1
    rcases bool_or (decide (n ≤ 36524)) with q2 | q2
    · have HV : Hid ((decide (0 ≤ n) && decide (n ≤ 36524)) = true) := by unfold Hid; rw [q1, q2]; rfl
      clear h1
      go_enter Try.func54, Try.ntmps54
      go_wp2
      go_ret
      exact ⟨ret_bool HV.out.symm, rfl⟩
    · have HV : Hid ((decide (0 ≤ n) && decide (n ≤ 36524)) = false) := by unfold Hid; rw [q1, q2]; rfl
      clear h1
      go_enter Try.func54, Try.ntmps54
      go_wp2
      go_ret
      exact ⟨ret_bool HV.out.symm, rfl⟩
  · have q1 : decide (0 ≤ n) = false := decide_eq_false h1
    have HV : Hid ((decide (0 ≤ n) && decide (n ≤ 36524)) = false) := by unfold Hid; rw [q1]; rfl
    clear h1
    go_enter Try.func54, Try.ntmps54
    go_wp2
    go_ret
    exact ⟨ret_bool HV.out.symm, rfl⟩
set_option maxRecDepth 100000 in
set_option maxHeartbeats 1000000 in
theorem within_is {n lo hi : Int} {t : Bool} (h : (decide (lo ≤ n) && decide (n ≤ hi)) = t) (w : World) : Calls Try.prog 55 #[.int .i64 n, .int .i64 lo, .int .i64 hi] w fun e w' => e = .returned (.bool t) ∧ w = w' := by
  subst h
  rcases bool_or (decide (lo ≤ n)) with q1 | q1
  · rcases bool_or (decide (n ≤ hi)) with q2 | q2
    · have HV : Hid ((decide (lo ≤ n) && decide (n ≤ hi)) = true) := by unfold Hid; rw [q1, q2]; rfl
      go_enter Try.func55, Try.ntmps55
      go_wp2
      go_ret
      exact ⟨ret_bool HV.out.symm, rfl⟩
    · have HV : Hid ((decide (lo ≤ n) && decide (n ≤ hi)) = false) := by unfold Hid; rw [q1, q2]; rfl
      go_enter Try.func55, Try.ntmps55
      go_wp2
      go_ret
      exact ⟨ret_bool HV.out.symm, rfl⟩
  · have HV : Hid ((decide (lo ≤ n) && decide (n ≤ hi)) = false) := by unfold Hid; rw [q1]; rfl
    go_enter Try.func55, Try.ntmps55
    go_wp2
    go_ret
    exact ⟨ret_bool HV.out.symm, rfl⟩

theorem within_num {n : Int} {t : Bool} (h : numB n = t) (w : World) : Calls Try.prog 55 #[.int .i64 n, .int .i64 0, .int .i64 400000000000] w fun e w' => e = .returned (.bool t) ∧ w = w' := within_is h w
theorem within_cent {n : Int} {t : Bool} (h : centB n = t) (w : World) : Calls Try.prog 55 #[.int .i64 n, .int .i64 1, .int .i64 1000000000000] w fun e w' => e = .returned (.bool t) ∧ w = w' := within_is h w
theorem within_day {n : Int} {t : Bool} (h : dayB n = t) (w : World) : Calls Try.prog 55 #[.int .i64 n, .int .i64 0, .int .i64 36524] w fun e w' => e = .returned (.bool t) ∧ w = w' := within_is h w
theorem within_kind {n : Int} {t : Bool} (h : (decide (1 ≤ n) && decide (n ≤ 4)) = t) (w : World) : Calls Try.prog 55 #[.int .i64 n, .int .i64 1, .int .i64 4] w fun e w' => e = .returned (.bool t) ∧ w = w' := within_is h w
theorem num_at {n : Int} {t : Bool} (h : numB n = t) (w : World) : Calls Try.prog 52 #[.int .i64 n] w fun e w' => e = .returned (.bool t) ∧ w = w' := num_is h w
theorem day_at {n : Int} {t : Bool} (h : dayB n = t) (w : World) : Calls Try.prog 54 #[.int .i64 n] w fun e w' => e = .returned (.bool t) ∧ w = w' := day_is h w
set_option maxRecDepth 100000 in
set_option maxHeartbeats 4000000 in
theorem pay_any (p : Pay) (w : World) (hp : p.acc.size ≤ maxLen) : Calls Try.prog 30 #[.agg #[.int .i64 p.id, .string p.acc, .int .i64 p.c, .int .i64 p.d]] w fun e w' => e = .returned (.bool (payB p)) ∧ Grew w w' := by
  rcases bool_or (numB p.id) with z1 | z1
  rotate_left
  · have H1 := Lib.hid z1
    clear z1
    have HV : Hid (payB p = false) := by unfold Hid payB; rw [H1.out]; simp
    go_enter Try.func30, Try.ntmps30
    go_wp2_with (first | (go_at_call 52; ((with_reducible refine (num_at H1.out _).mono ?_); rintro e w' ⟨rfl, rfl⟩)))
    go_ret
    exact ⟨ret_bool HV.out.symm, (Grew.refl w).alloc _⟩
  have H1 := Lib.hid z1
  clear z1
  rcases bool_or (nameB p.acc) with z2 | z2
  rotate_left
  · have H2 := Lib.hid z2
    clear z2
    have HV : Hid (payB p = false) := by unfold Hid payB; rw [H2.out]; simp
    go_enter Try.func30, Try.ntmps30
    go_wp2_with (first | (go_at_call 52; ((with_reducible refine (num_at H1.out _).mono ?_); rintro e w' ⟨rfl, rfl⟩)) | (go_at_call 53; ((with_reducible refine (isName_is H2.out hp _).mono ?_); rintro e w' ⟨rfl, rfl⟩)))
    go_ret
    exact ⟨ret_bool HV.out.symm, (Grew.refl w).alloc _⟩
  have H2 := Lib.hid z2
  clear z2
  rcases bool_or (decide (p.acc = transit)) with z3 | z3
  · have H3 := Lib.hid z3
    clear z3
    have HV : Hid (payB p = false) := by unfold Hid payB; rw [H3.out]; simp
    have q3 : (p.acc.toList == [105, 110, 95, 116, 114, 97, 110, 115, 105, 116]) = true := (str_tr _).trans H3.out
    go_enter Try.func30, Try.ntmps30
    go_wp2_with (first | (go_at_call 52; ((with_reducible refine (num_at H1.out _).mono ?_); rintro e w' ⟨rfl, rfl⟩)) | (go_at_call 53; ((with_reducible refine (isName_is H2.out hp _).mono ?_); rintro e w' ⟨rfl, rfl⟩)))
    go_ret
    exact ⟨ret_bool HV.out.symm, (Grew.refl w).alloc _⟩
  have H3 := Lib.hid z3
  clear z3
  rcases bool_or (decide (p.acc = bank)) with z4 | z4
  · have H4 := Lib.hid z4
    clear z4
    have HV : Hid (payB p = false) := by unfold Hid payB; rw [H4.out]; simp
    have q3 : (p.acc.toList == [105, 110, 95, 116, 114, 97, 110, 115, 105, 116]) = false := (str_tr _).trans H3.out
    have q4 : (p.acc.toList == [97, 116, 95, 98, 97, 110, 107]) = true := (str_bk _).trans H4.out
    go_enter Try.func30, Try.ntmps30
    go_wp2_with (first | (go_at_call 52; ((with_reducible refine (num_at H1.out _).mono ?_); rintro e w' ⟨rfl, rfl⟩)) | (go_at_call 53; ((with_reducible refine (isName_is H2.out hp _).mono ?_); rintro e w' ⟨rfl, rfl⟩)))
    go_ret
    exact ⟨ret_bool HV.out.symm, (Grew.refl w).alloc _⟩
  have H4 := Lib.hid z4
  clear z4
  rcases bool_or (centB p.c) with z5 | z5
  rotate_left
  · have H5 := Lib.hid z5
    clear z5
    have HV : Hid (payB p = false) := by unfold Hid payB; rw [H5.out]; simp
    have q3 : (p.acc.toList == [105, 110, 95, 116, 114, 97, 110, 115, 105, 116]) = false := (str_tr _).trans H3.out
    have q4 : (p.acc.toList == [97, 116, 95, 98, 97, 110, 107]) = false := (str_bk _).trans H4.out
    by_cases q5 : 1 ≤ p.c
    · have q5a : decide (1 ≤ p.c) = true := decide_eq_true q5
      have q5b : decide (p.c ≤ 1000000000000) = false := cent_no2 H5.out q5
      clear q5
      go_enter Try.func30, Try.ntmps30
      go_wp2_with (first | (go_at_call 52; ((with_reducible refine (num_at H1.out _).mono ?_); rintro e w' ⟨rfl, rfl⟩)) | (go_at_call 53; ((with_reducible refine (isName_is H2.out hp _).mono ?_); rintro e w' ⟨rfl, rfl⟩)))
      go_ret
      exact ⟨ret_bool HV.out.symm, (Grew.refl w).alloc _⟩
    · have q5a : decide (1 ≤ p.c) = false := decide_eq_false q5
      clear q5
      go_enter Try.func30, Try.ntmps30
      go_wp2_with (first | (go_at_call 52; ((with_reducible refine (num_at H1.out _).mono ?_); rintro e w' ⟨rfl, rfl⟩)) | (go_at_call 53; ((with_reducible refine (isName_is H2.out hp _).mono ?_); rintro e w' ⟨rfl, rfl⟩)))
      go_ret
      exact ⟨ret_bool HV.out.symm, (Grew.refl w).alloc _⟩
  have H5 := Lib.hid z5
  clear z5
  rcases bool_or (dayB p.d) with z6 | z6
  rotate_left
  · have H6 := Lib.hid z6
    clear z6
    have HV : Hid (payB p = false) := by unfold Hid payB; rw [H6.out]; simp
    have q3 : (p.acc.toList == [105, 110, 95, 116, 114, 97, 110, 115, 105, 116]) = false := (str_tr _).trans H3.out
    have q4 : (p.acc.toList == [97, 116, 95, 98, 97, 110, 107]) = false := (str_bk _).trans H4.out
    obtain ⟨q5a, q5b⟩ := cent_yes H5.out
    go_enter Try.func30, Try.ntmps30
    go_wp2_with (first | (go_at_call 52; ((with_reducible refine (num_at H1.out _).mono ?_); rintro e w' ⟨rfl, rfl⟩)) | (go_at_call 53; ((with_reducible refine (isName_is H2.out hp _).mono ?_); rintro e w' ⟨rfl, rfl⟩)) | (go_at_call 54; ((with_reducible refine (day_at H6.out _).mono ?_); rintro e w' ⟨rfl, rfl⟩)))
    go_ret
    exact ⟨ret_bool HV.out.symm, (Grew.refl w).alloc _⟩
  have H6 := Lib.hid z6
  clear z6
  have HV : Hid (payB p = true) := by unfold Hid payB; rw [H1.out]; rw [H2.out, H3.out, H4.out, H5.out, H6.out]; rfl
  have q3 : (p.acc.toList == [105, 110, 95, 116, 114, 97, 110, 115, 105, 116]) = false := (str_tr _).trans H3.out
  have q4 : (p.acc.toList == [97, 116, 95, 98, 97, 110, 107]) = false := (str_bk _).trans H4.out
  obtain ⟨q5a, q5b⟩ := cent_yes H5.out
  go_enter Try.func30, Try.ntmps30
  go_wp2_with (first | (go_at_call 52; ((with_reducible refine (num_at H1.out _).mono ?_); rintro e w' ⟨rfl, rfl⟩)) | (go_at_call 53; ((with_reducible refine (isName_is H2.out hp _).mono ?_); rintro e w' ⟨rfl, rfl⟩)) | (go_at_call 54; ((with_reducible refine (day_at H6.out _).mono ?_); rintro e w' ⟨rfl, rfl⟩)))
  go_ret
  exact ⟨ret_bool HV.out.symm, (Grew.refl w).alloc _⟩
theorem pay_val {p : Pay} {t : Bool} (h : payB p = t) (hp : p.acc.size ≤ maxLen) (w : World) : Calls Try.prog 30 #[pv p] w fun e w' => e = .returned (.bool t) ∧ Grew w w' := by
  subst h; exact pay_any p w hp

set_option maxRecDepth 100000 in
set_option maxHeartbeats 4000000 in
theorem ans_any (a : Ans) (w : World) : Calls Try.prog 36 #[.agg #[.int .i64 a.q, .int .i64 a.id, .int .i64 a.k, .int .i64 a.c, .int .i64 a.d]] w fun e w' => e = .returned (.bool (ansB a)) ∧ Grew w w' := by
  rcases bool_or (numB a.q) with z1 | z1
  rotate_left
  · have H1 := Lib.hid z1
    clear z1
    have HV : Hid (ansB a = false) := by unfold Hid ansB; rw [H1.out]; simp
    go_enter Try.func36, Try.ntmps36
    go_wp2_with (first | (go_at_call 52; ((with_reducible refine (num_at H1.out _).mono ?_); rintro e w' ⟨rfl, rfl⟩)))
    go_ret
    exact ⟨ret_bool HV.out.symm, (Grew.refl w).alloc _⟩
  have H1 := Lib.hid z1
  clear z1
  rcases bool_or (numB a.id) with z2 | z2
  rotate_left
  · have H2 := Lib.hid z2
    clear z2
    have HV : Hid (ansB a = false) := by unfold Hid ansB; rw [H2.out]; simp
    go_enter Try.func36, Try.ntmps36
    go_wp2_with (first | (go_at_call 52; ((with_reducible refine (num_at H1.out _).mono ?_); rintro e w' ⟨rfl, rfl⟩)) | (go_at_call 52; ((with_reducible refine (num_at H2.out _).mono ?_); rintro e w' ⟨rfl, rfl⟩)))
    go_ret
    exact ⟨ret_bool HV.out.symm, (Grew.refl w).alloc _⟩
  have H2 := Lib.hid z2
  clear z2
  rcases bool_or (dayB a.d) with z3 | z3
  rotate_left
  · have H3 := Lib.hid z3
    clear z3
    have HV : Hid (ansB a = false) := by unfold Hid ansB; rw [H3.out]; simp
    go_enter Try.func36, Try.ntmps36
    go_wp2_with (first | (go_at_call 52; ((with_reducible refine (num_at H1.out _).mono ?_); rintro e w' ⟨rfl, rfl⟩)) | (go_at_call 52; ((with_reducible refine (num_at H2.out _).mono ?_); rintro e w' ⟨rfl, rfl⟩)) | (go_at_call 54; ((with_reducible refine (day_at H3.out _).mono ?_); rintro e w' ⟨rfl, rfl⟩)))
    go_ret
    exact ⟨ret_bool HV.out.symm, (Grew.refl w).alloc _⟩
  have H3 := Lib.hid z3
  clear z3
  by_cases hk : a.k = 2
  · have k2 : (a.k == 2) = true := by rw [hk]; rfl
    by_cases q5 : 1 ≤ a.c
    · have q5a : decide (1 ≤ a.c) = true := decide_eq_true q5
      by_cases q6 : a.c ≤ 1000000000000
      · have q5b : decide (a.c ≤ 1000000000000) = true := decide_eq_true q6
        have HV : Hid (ansB a = true) := by unfold Hid ansB; rw [H1.out, H2.out, H3.out, if_pos (by rw [hk]; decide)]; unfold centB; rw [q5a, q5b]; rfl
        clear q5 q6 hk
        go_enter Try.func36, Try.ntmps36
        go_wp2_with (first | (go_at_call 52; ((with_reducible refine (num_at H1.out _).mono ?_); rintro e w' ⟨rfl, rfl⟩)) | (go_at_call 52; ((with_reducible refine (num_at H2.out _).mono ?_); rintro e w' ⟨rfl, rfl⟩)) | (go_at_call 54; ((with_reducible refine (day_at H3.out _).mono ?_); rintro e w' ⟨rfl, rfl⟩)))
        go_ret
        exact ⟨ret_bool HV.out.symm, (Grew.refl w).alloc _⟩
      · have q5b : decide (a.c ≤ 1000000000000) = false := decide_eq_false q6
        have HV : Hid (ansB a = false) := by unfold Hid ansB; rw [H1.out, H2.out, H3.out, if_pos (by rw [hk]; decide)]; unfold centB; rw [q5a, q5b]; rfl
        clear q5 q6 hk
        go_enter Try.func36, Try.ntmps36
        go_wp2_with (first | (go_at_call 52; ((with_reducible refine (num_at H1.out _).mono ?_); rintro e w' ⟨rfl, rfl⟩)) | (go_at_call 52; ((with_reducible refine (num_at H2.out _).mono ?_); rintro e w' ⟨rfl, rfl⟩)) | (go_at_call 54; ((with_reducible refine (day_at H3.out _).mono ?_); rintro e w' ⟨rfl, rfl⟩)))
        go_ret
        exact ⟨ret_bool HV.out.symm, (Grew.refl w).alloc _⟩
    · have q5a : decide (1 ≤ a.c) = false := decide_eq_false q5
      have HV : Hid (ansB a = false) := by unfold Hid ansB; rw [H1.out, H2.out, H3.out, if_pos (by rw [hk]; decide)]; unfold centB; rw [q5a]; rfl
      clear q5 hk
      go_enter Try.func36, Try.ntmps36
      go_wp2_with (first | (go_at_call 52; ((with_reducible refine (num_at H1.out _).mono ?_); rintro e w' ⟨rfl, rfl⟩)) | (go_at_call 52; ((with_reducible refine (num_at H2.out _).mono ?_); rintro e w' ⟨rfl, rfl⟩)) | (go_at_call 54; ((with_reducible refine (day_at H3.out _).mono ?_); rintro e w' ⟨rfl, rfl⟩)))
      go_ret
      exact ⟨ret_bool HV.out.symm, (Grew.refl w).alloc _⟩
  have n2 : a.k ≠ 2 := hk
  clear hk
  by_cases hk : a.k = 4
  · have k2 : (a.k == 2) = false := by rw [hk]; rfl
    have k4 : (a.k == 4) = true := by rw [hk]; rfl
    by_cases q5 : 1 ≤ a.c
    · have q5a : decide (1 ≤ a.c) = true := decide_eq_true q5
      by_cases q6 : a.c ≤ 1000000000000
      · have q5b : decide (a.c ≤ 1000000000000) = true := decide_eq_true q6
        have HV : Hid (ansB a = true) := by unfold Hid ansB; rw [H1.out, H2.out, H3.out, if_pos (by rw [hk]; decide)]; unfold centB; rw [q5a, q5b]; rfl
        clear q5 q6 hk
        go_enter Try.func36, Try.ntmps36
        go_wp2_with (first | (go_at_call 52; ((with_reducible refine (num_at H1.out _).mono ?_); rintro e w' ⟨rfl, rfl⟩)) | (go_at_call 52; ((with_reducible refine (num_at H2.out _).mono ?_); rintro e w' ⟨rfl, rfl⟩)) | (go_at_call 54; ((with_reducible refine (day_at H3.out _).mono ?_); rintro e w' ⟨rfl, rfl⟩)))
        go_ret
        exact ⟨ret_bool HV.out.symm, (Grew.refl w).alloc _⟩
      · have q5b : decide (a.c ≤ 1000000000000) = false := decide_eq_false q6
        have HV : Hid (ansB a = false) := by unfold Hid ansB; rw [H1.out, H2.out, H3.out, if_pos (by rw [hk]; decide)]; unfold centB; rw [q5a, q5b]; rfl
        clear q5 q6 hk
        go_enter Try.func36, Try.ntmps36
        go_wp2_with (first | (go_at_call 52; ((with_reducible refine (num_at H1.out _).mono ?_); rintro e w' ⟨rfl, rfl⟩)) | (go_at_call 52; ((with_reducible refine (num_at H2.out _).mono ?_); rintro e w' ⟨rfl, rfl⟩)) | (go_at_call 54; ((with_reducible refine (day_at H3.out _).mono ?_); rintro e w' ⟨rfl, rfl⟩)))
        go_ret
        exact ⟨ret_bool HV.out.symm, (Grew.refl w).alloc _⟩
    · have q5a : decide (1 ≤ a.c) = false := decide_eq_false q5
      have HV : Hid (ansB a = false) := by unfold Hid ansB; rw [H1.out, H2.out, H3.out, if_pos (by rw [hk]; decide)]; unfold centB; rw [q5a]; rfl
      clear q5 hk
      go_enter Try.func36, Try.ntmps36
      go_wp2_with (first | (go_at_call 52; ((with_reducible refine (num_at H1.out _).mono ?_); rintro e w' ⟨rfl, rfl⟩)) | (go_at_call 52; ((with_reducible refine (num_at H2.out _).mono ?_); rintro e w' ⟨rfl, rfl⟩)) | (go_at_call 54; ((with_reducible refine (day_at H3.out _).mono ?_); rintro e w' ⟨rfl, rfl⟩)))
      go_ret
      exact ⟨ret_bool HV.out.symm, (Grew.refl w).alloc _⟩
  have n4 : a.k ≠ 4 := hk
  clear hk
  by_cases hk : a.k = 1
  · have k2 : (a.k == 2) = false := by rw [hk]; rfl
    have k4 : (a.k == 4) = false := by rw [hk]; rfl
    have k1 : (a.k == 1) = true := by rw [hk]; rfl
    rcases bool_or (a.c == 0) with q0 | q0
    · have HV : Hid (ansB a = true) := by unfold Hid ansB; rw [H1.out, H2.out, H3.out, if_neg (by omega)]; rw [decide_eq_true (show a.k = 1 ∨ a.k = 3 by omega), ← int_beq, q0]; rfl
      clear hk n2 n4
      go_enter Try.func36, Try.ntmps36
      go_wp2_with (first | (go_at_call 52; ((with_reducible refine (num_at H1.out _).mono ?_); rintro e w' ⟨rfl, rfl⟩)) | (go_at_call 52; ((with_reducible refine (num_at H2.out _).mono ?_); rintro e w' ⟨rfl, rfl⟩)) | (go_at_call 54; ((with_reducible refine (day_at H3.out _).mono ?_); rintro e w' ⟨rfl, rfl⟩)))
      go_ret
      exact ⟨ret_bool HV.out.symm, (Grew.refl w).alloc _⟩
    · have HV : Hid (ansB a = false) := by unfold Hid ansB; rw [H1.out, H2.out, H3.out, if_neg (by omega)]; rw [decide_eq_true (show a.k = 1 ∨ a.k = 3 by omega), ← int_beq, q0]; rfl
      clear hk n2 n4
      go_enter Try.func36, Try.ntmps36
      go_wp2_with (first | (go_at_call 52; ((with_reducible refine (num_at H1.out _).mono ?_); rintro e w' ⟨rfl, rfl⟩)) | (go_at_call 52; ((with_reducible refine (num_at H2.out _).mono ?_); rintro e w' ⟨rfl, rfl⟩)) | (go_at_call 54; ((with_reducible refine (day_at H3.out _).mono ?_); rintro e w' ⟨rfl, rfl⟩)))
      go_ret
      exact ⟨ret_bool HV.out.symm, (Grew.refl w).alloc _⟩
  have n1 : a.k ≠ 1 := hk
  clear hk
  by_cases hk : a.k = 3
  · have k2 : (a.k == 2) = false := by rw [hk]; rfl
    have k4 : (a.k == 4) = false := by rw [hk]; rfl
    have k1 : (a.k == 1) = false := by rw [hk]; rfl
    have k3 : (a.k == 3) = true := by rw [hk]; rfl
    rcases bool_or (a.c == 0) with q0 | q0
    · have HV : Hid (ansB a = true) := by unfold Hid ansB; rw [H1.out, H2.out, H3.out, if_neg (by omega)]; rw [decide_eq_true (show a.k = 1 ∨ a.k = 3 by omega), ← int_beq, q0]; rfl
      clear hk n2 n4 n1
      go_enter Try.func36, Try.ntmps36
      go_wp2_with (first | (go_at_call 52; ((with_reducible refine (num_at H1.out _).mono ?_); rintro e w' ⟨rfl, rfl⟩)) | (go_at_call 52; ((with_reducible refine (num_at H2.out _).mono ?_); rintro e w' ⟨rfl, rfl⟩)) | (go_at_call 54; ((with_reducible refine (day_at H3.out _).mono ?_); rintro e w' ⟨rfl, rfl⟩)))
      go_ret
      exact ⟨ret_bool HV.out.symm, (Grew.refl w).alloc _⟩
    · have HV : Hid (ansB a = false) := by unfold Hid ansB; rw [H1.out, H2.out, H3.out, if_neg (by omega)]; rw [decide_eq_true (show a.k = 1 ∨ a.k = 3 by omega), ← int_beq, q0]; rfl
      clear hk n2 n4 n1
      go_enter Try.func36, Try.ntmps36
      go_wp2_with (first | (go_at_call 52; ((with_reducible refine (num_at H1.out _).mono ?_); rintro e w' ⟨rfl, rfl⟩)) | (go_at_call 52; ((with_reducible refine (num_at H2.out _).mono ?_); rintro e w' ⟨rfl, rfl⟩)) | (go_at_call 54; ((with_reducible refine (day_at H3.out _).mono ?_); rintro e w' ⟨rfl, rfl⟩)))
      go_ret
      exact ⟨ret_bool HV.out.symm, (Grew.refl w).alloc _⟩
  have n3 : a.k ≠ 3 := hk
  clear hk
  have k2 : (a.k == 2) = false := by rw [beq_eq_false_iff_ne]; omega
  have k4 : (a.k == 4) = false := by rw [beq_eq_false_iff_ne]; omega
  have k1 : (a.k == 1) = false := by rw [beq_eq_false_iff_ne]; omega
  have k3 : (a.k == 3) = false := by rw [beq_eq_false_iff_ne]; omega
  have HV : Hid (ansB a = false) := by unfold Hid ansB; rw [H1.out, H2.out, H3.out, if_neg (by omega)]; rw [decide_eq_false (show ¬ (a.k = 1 ∨ a.k = 3) by omega)]; rfl
  go_enter Try.func36, Try.ntmps36
  go_wp2_with (first | (go_at_call 52; ((with_reducible refine (num_at H1.out _).mono ?_); rintro e w' ⟨rfl, rfl⟩)) | (go_at_call 52; ((with_reducible refine (num_at H2.out _).mono ?_); rintro e w' ⟨rfl, rfl⟩)) | (go_at_call 54; ((with_reducible refine (day_at H3.out _).mono ?_); rintro e w' ⟨rfl, rfl⟩)))
  go_ret
  exact ⟨ret_bool HV.out.symm, (Grew.refl w).alloc _⟩
theorem ans_val {a : Ans} {t : Bool} (h : ansB a = t) (w : World) : Calls Try.prog 36 #[av a] w fun e w' => e = .returned (.bool t) ∧ Grew w w' := by
  subst h; exact ans_any a w

end Go.Proofs.Ytaocjobbfcfleaa
