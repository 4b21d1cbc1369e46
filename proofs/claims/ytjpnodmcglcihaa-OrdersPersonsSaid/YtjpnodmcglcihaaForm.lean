/-
  Orders in memory; well-formed orders: orders.wellFormed and the reference's Formed.
-/
import Derived.Test.YtjpnodmcglcihaaName
namespace Go.Proofs.Ytjpnodmcglcihaa
open Go.RowKit Go.Proofs WageMem WageOrd WageRec

/-- An order's cells. -/
def oe (o : Ord) : List Value := [.int .i64 o.n, .string o.p, .string o.c, .int .i64 o.r, .int .i64 o.k, .int .i64 o.f, .int .i64 o.m, .bool o.fam]
def ov (o : Ord) : Value := .agg #[.int .i64 o.n, .string o.p, .string o.c, .int .i64 o.r, .int .i64 o.k, .int .i64 o.f, .int .i64 o.m, .bool o.fam]
theorem oe_ok : EncOk oe 8 where
  len := fun _ => rfl
  pos := by decide
  one := fun x u hu => by
    simp only [oe, List.mem_cons, List.not_mem_nil, or_false] at hu
    rcases hu with rfl | rfl | rfl | rfl | rfl | rfl | rfl | rfl <;> rfl

set_option maxRecDepth 100000 in
set_option maxHeartbeats 4000000 in
theorem formed_any (n : Int) (p c : ByteArray) (r k f m : Int) (fam : Bool) (w : World) (hp : p.size ≤ maxLen) (hc : c.size ≤ maxLen) :
    Calls Try.prog 20 #[.agg #[.int .i64 n, .string p, .string c, .int .i64 r, .int .i64 k, .int .i64 f, .int .i64 m, .bool fam]] w fun e w' => e = .returned (.bool (formB ⟨n, p, c, r, k, f, m, fam⟩)) ∧ Grew w w' := by
  by_cases z0 : 1 ≤ n
  case neg =>
    have HV : Hid (formB ⟨n, p, c, r, k, f, m, fam⟩ = false) := by unfold Hid formB; simp only [decide_eq_false z0, Bool.false_and]
    have q0 : decide (n < 1) = true := decide_eq_true (by omega)
    go_enter Try.func20, Try.ntmps20
    go_wp2_with fail
    go_ret
    exact ⟨ret_bool HV.out.symm, (Grew.refl w).alloc _⟩
  by_cases z1 : n ≤ 1000000
  case neg =>
    have HV : Hid (formB ⟨n, p, c, r, k, f, m, fam⟩ = false) := by unfold Hid formB; simp only [decide_eq_false z1, Bool.and_false, Bool.false_and]
    have q0 : decide (n < 1) = false := decide_eq_false (by omega)
    have q1 : decide (1000000 < n) = true := decide_eq_true (by omega)
    go_enter Try.func20, Try.ntmps20
    go_wp2_with fail
    go_ret
    exact ⟨ret_bool HV.out.symm, (Grew.refl w).alloc _⟩
  cases z2 : nameB p with
  | false =>
    have HV : Hid (formB ⟨n, p, c, r, k, f, m, fam⟩ = false) := by unfold Hid formB; simp only [z2, Bool.and_false, Bool.false_and]
    have Hp := Lib.hid z2
    clear z2
    have q0 : decide (n < 1) = false := decide_eq_false (by omega)
    have q1 : decide (1000000 < n) = false := decide_eq_false (by omega)
    go_enter Try.func20, Try.ntmps20
    go_wp2_with (first | (go_at_call 30; ((with_reducible refine (isName_is Hp.out hp _).mono ?_); rintro e w' ⟨rfl, rfl⟩)))
    go_ret
    exact ⟨ret_bool HV.out.symm, (Grew.refl w).alloc _⟩
  | true =>
  have Hp := Lib.hid z2
  clear z2
  cases z3 : nameB c with
  | false =>
    have HV : Hid (formB ⟨n, p, c, r, k, f, m, fam⟩ = false) := by unfold Hid formB; simp only [z3, Bool.and_false, Bool.false_and]
    have Hc := Lib.hid z3
    clear z3
    have q0 : decide (n < 1) = false := decide_eq_false (by omega)
    have q1 : decide (1000000 < n) = false := decide_eq_false (by omega)
    go_enter Try.func20, Try.ntmps20
    go_wp2_with (first | (go_at_call 30; ((with_reducible refine (isName_is Hp.out hp _).mono ?_); rintro e w' ⟨rfl, rfl⟩)) | (go_at_call 30; ((with_reducible refine (isName_is Hc.out hc _).mono ?_); rintro e w' ⟨rfl, rfl⟩)))
    go_ret
    exact ⟨ret_bool HV.out.symm, (Grew.refl w).alloc _⟩
  | true =>
  have Hc := Lib.hid z3
  clear z3
  by_cases z4 : 0 ≤ r
  case neg =>
    have HV : Hid (formB ⟨n, p, c, r, k, f, m, fam⟩ = false) := by unfold Hid formB; unfold numsB; simp only [decide_eq_false z4, Bool.and_false, Bool.false_and]
    have q0 : decide (n < 1) = false := decide_eq_false (by omega)
    have q1 : decide (1000000 < n) = false := decide_eq_false (by omega)
    have q4 : decide (r < 0) = true := decide_eq_true (by omega)
    go_enter Try.func20, Try.ntmps20
    go_wp2_with (first | (go_at_call 30; ((with_reducible refine (isName_is Hp.out hp _).mono ?_); rintro e w' ⟨rfl, rfl⟩)) | (go_at_call 30; ((with_reducible refine (isName_is Hc.out hc _).mono ?_); rintro e w' ⟨rfl, rfl⟩)))
    go_ret
    exact ⟨ret_bool HV.out.symm, (Grew.refl w).alloc _⟩
  by_cases z5 : r ≤ 1000000
  case neg =>
    have HV : Hid (formB ⟨n, p, c, r, k, f, m, fam⟩ = false) := by unfold Hid formB; unfold numsB; simp only [decide_eq_false z5, Bool.and_false, Bool.false_and]
    have q0 : decide (n < 1) = false := decide_eq_false (by omega)
    have q1 : decide (1000000 < n) = false := decide_eq_false (by omega)
    have q4 : decide (r < 0) = false := decide_eq_false (by omega)
    have q5 : decide (1000000 < r) = true := decide_eq_true (by omega)
    go_enter Try.func20, Try.ntmps20
    go_wp2_with (first | (go_at_call 30; ((with_reducible refine (isName_is Hp.out hp _).mono ?_); rintro e w' ⟨rfl, rfl⟩)) | (go_at_call 30; ((with_reducible refine (isName_is Hc.out hc _).mono ?_); rintro e w' ⟨rfl, rfl⟩)))
    go_ret
    exact ⟨ret_bool HV.out.symm, (Grew.refl w).alloc _⟩
  by_cases z6 : 0 ≤ k
  case neg =>
    have HV : Hid (formB ⟨n, p, c, r, k, f, m, fam⟩ = false) := by unfold Hid formB; unfold numsB; simp only [decide_eq_false z6, Bool.and_false, Bool.false_and]
    have q0 : decide (n < 1) = false := decide_eq_false (by omega)
    have q1 : decide (1000000 < n) = false := decide_eq_false (by omega)
    have q4 : decide (r < 0) = false := decide_eq_false (by omega)
    have q5 : decide (1000000 < r) = false := decide_eq_false (by omega)
    have q6 : decide (k < 0) = true := decide_eq_true (by omega)
    go_enter Try.func20, Try.ntmps20
    go_wp2_with (first | (go_at_call 30; ((with_reducible refine (isName_is Hp.out hp _).mono ?_); rintro e w' ⟨rfl, rfl⟩)) | (go_at_call 30; ((with_reducible refine (isName_is Hc.out hc _).mono ?_); rintro e w' ⟨rfl, rfl⟩)))
    go_ret
    exact ⟨ret_bool HV.out.symm, (Grew.refl w).alloc _⟩
  by_cases z7 : k ≤ 36524
  case neg =>
    have HV : Hid (formB ⟨n, p, c, r, k, f, m, fam⟩ = false) := by unfold Hid formB; unfold numsB; simp only [decide_eq_false z7, Bool.and_false, Bool.false_and]
    have q0 : decide (n < 1) = false := decide_eq_false (by omega)
    have q1 : decide (1000000 < n) = false := decide_eq_false (by omega)
    have q4 : decide (r < 0) = false := decide_eq_false (by omega)
    have q5 : decide (1000000 < r) = false := decide_eq_false (by omega)
    have q6 : decide (k < 0) = false := decide_eq_false (by omega)
    have q7 : decide (36524 < k) = true := decide_eq_true (by omega)
    go_enter Try.func20, Try.ntmps20
    go_wp2_with (first | (go_at_call 30; ((with_reducible refine (isName_is Hp.out hp _).mono ?_); rintro e w' ⟨rfl, rfl⟩)) | (go_at_call 30; ((with_reducible refine (isName_is Hc.out hc _).mono ?_); rintro e w' ⟨rfl, rfl⟩)))
    go_ret
    exact ⟨ret_bool HV.out.symm, (Grew.refl w).alloc _⟩
  by_cases z8 : 0 ≤ f
  case neg =>
    have HV : Hid (formB ⟨n, p, c, r, k, f, m, fam⟩ = false) := by unfold Hid formB; unfold numsB; simp only [decide_eq_false z8, Bool.and_false, Bool.false_and]
    have q0 : decide (n < 1) = false := decide_eq_false (by omega)
    have q1 : decide (1000000 < n) = false := decide_eq_false (by omega)
    have q4 : decide (r < 0) = false := decide_eq_false (by omega)
    have q5 : decide (1000000 < r) = false := decide_eq_false (by omega)
    have q6 : decide (k < 0) = false := decide_eq_false (by omega)
    have q7 : decide (36524 < k) = false := decide_eq_false (by omega)
    have q8 : decide (0 ≤ f) = false := decide_eq_false (by omega)
    go_enter Try.func20, Try.ntmps20
    go_wp2_with (first | (go_at_call 30; ((with_reducible refine (isName_is Hp.out hp _).mono ?_); rintro e w' ⟨rfl, rfl⟩)) | (go_at_call 30; ((with_reducible refine (isName_is Hc.out hc _).mono ?_); rintro e w' ⟨rfl, rfl⟩)))
    go_ret
    exact ⟨ret_bool HV.out.symm, (Grew.refl w).alloc _⟩
  by_cases z9 : f ≤ 1199
  case neg =>
    have HV : Hid (formB ⟨n, p, c, r, k, f, m, fam⟩ = false) := by unfold Hid formB; unfold numsB; simp only [decide_eq_false z9, Bool.and_false, Bool.false_and]
    have q0 : decide (n < 1) = false := decide_eq_false (by omega)
    have q1 : decide (1000000 < n) = false := decide_eq_false (by omega)
    have q4 : decide (r < 0) = false := decide_eq_false (by omega)
    have q5 : decide (1000000 < r) = false := decide_eq_false (by omega)
    have q6 : decide (k < 0) = false := decide_eq_false (by omega)
    have q7 : decide (36524 < k) = false := decide_eq_false (by omega)
    have q8 : decide (0 ≤ f) = true := decide_eq_true (by omega)
    have q9 : decide (f ≤ 1199) = false := decide_eq_false (by omega)
    go_enter Try.func20, Try.ntmps20
    go_wp2_with (first | (go_at_call 30; ((with_reducible refine (isName_is Hp.out hp _).mono ?_); rintro e w' ⟨rfl, rfl⟩)) | (go_at_call 30; ((with_reducible refine (isName_is Hc.out hc _).mono ?_); rintro e w' ⟨rfl, rfl⟩)))
    go_ret
    exact ⟨ret_bool HV.out.symm, (Grew.refl w).alloc _⟩
  by_cases z10 : 0 ≤ m
  case neg =>
    have HV : Hid (formB ⟨n, p, c, r, k, f, m, fam⟩ = false) := by unfold Hid formB; unfold numsB; simp only [decide_eq_false z10, Bool.and_false, Bool.false_and]
    have q0 : decide (n < 1) = false := decide_eq_false (by omega)
    have q1 : decide (1000000 < n) = false := decide_eq_false (by omega)
    have q4 : decide (r < 0) = false := decide_eq_false (by omega)
    have q5 : decide (1000000 < r) = false := decide_eq_false (by omega)
    have q6 : decide (k < 0) = false := decide_eq_false (by omega)
    have q7 : decide (36524 < k) = false := decide_eq_false (by omega)
    have q8 : decide (0 ≤ f) = true := decide_eq_true (by omega)
    have q9 : decide (f ≤ 1199) = true := decide_eq_true (by omega)
    have q10 : decide (0 ≤ m) = false := decide_eq_false (by omega)
    go_enter Try.func20, Try.ntmps20
    go_wp2_with (first | (go_at_call 30; ((with_reducible refine (isName_is Hp.out hp _).mono ?_); rintro e w' ⟨rfl, rfl⟩)) | (go_at_call 30; ((with_reducible refine (isName_is Hc.out hc _).mono ?_); rintro e w' ⟨rfl, rfl⟩)))
    go_ret
    exact ⟨ret_bool HV.out.symm, (Grew.refl w).alloc _⟩
  by_cases z11 : m ≤ 1000000000000
  case neg =>
    have HV : Hid (formB ⟨n, p, c, r, k, f, m, fam⟩ = false) := by unfold Hid formB; unfold numsB; simp only [decide_eq_false z11, Bool.and_false]
    have q0 : decide (n < 1) = false := decide_eq_false (by omega)
    have q1 : decide (1000000 < n) = false := decide_eq_false (by omega)
    have q4 : decide (r < 0) = false := decide_eq_false (by omega)
    have q5 : decide (1000000 < r) = false := decide_eq_false (by omega)
    have q6 : decide (k < 0) = false := decide_eq_false (by omega)
    have q7 : decide (36524 < k) = false := decide_eq_false (by omega)
    have q8 : decide (0 ≤ f) = true := decide_eq_true (by omega)
    have q9 : decide (f ≤ 1199) = true := decide_eq_true (by omega)
    have q10 : decide (0 ≤ m) = true := decide_eq_true (by omega)
    have q11 : decide (m ≤ 1000000000000) = false := decide_eq_false (by omega)
    go_enter Try.func20, Try.ntmps20
    go_wp2_with (first | (go_at_call 30; ((with_reducible refine (isName_is Hp.out hp _).mono ?_); rintro e w' ⟨rfl, rfl⟩)) | (go_at_call 30; ((with_reducible refine (isName_is Hc.out hc _).mono ?_); rintro e w' ⟨rfl, rfl⟩)))
    go_ret
    exact ⟨ret_bool HV.out.symm, (Grew.refl w).alloc _⟩
  have HV : Hid (formB ⟨n, p, c, r, k, f, m, fam⟩ = true) := by unfold Hid formB numsB; simp only [decide_eq_true z0, decide_eq_true z1, Hp.out, Hc.out, decide_eq_true z4, decide_eq_true z5, decide_eq_true z6, decide_eq_true z7, decide_eq_true z8, decide_eq_true z9, decide_eq_true z10, decide_eq_true z11, Bool.and_true]
  have q0 : decide (n < 1) = false := decide_eq_false (by omega)
  have q1 : decide (1000000 < n) = false := decide_eq_false (by omega)
  have q4 : decide (r < 0) = false := decide_eq_false (by omega)
  have q5 : decide (1000000 < r) = false := decide_eq_false (by omega)
  have q6 : decide (k < 0) = false := decide_eq_false (by omega)
  have q7 : decide (36524 < k) = false := decide_eq_false (by omega)
  have q8 : decide (0 ≤ f) = true := decide_eq_true (by omega)
  have q9 : decide (f ≤ 1199) = true := decide_eq_true (by omega)
  have q10 : decide (0 ≤ m) = true := decide_eq_true (by omega)
  have q11 : decide (m ≤ 1000000000000) = true := decide_eq_true (by omega)
  go_enter Try.func20, Try.ntmps20
  go_wp2_with (first | (go_at_call 30; ((with_reducible refine (isName_is Hp.out hp _).mono ?_); rintro e w' ⟨rfl, rfl⟩)) | (go_at_call 30; ((with_reducible refine (isName_is Hc.out hc _).mono ?_); rintro e w' ⟨rfl, rfl⟩)))
  go_ret
  exact ⟨ret_bool HV.out.symm, (Grew.refl w).alloc _⟩
theorem formed_val {o : Ord} {t : Bool} (h : formB o = t) (hp : o.p.size ≤ maxLen) (hc : o.c.size ≤ maxLen) (w : World) : Calls Try.prog 20 #[ov o] w fun e w' => e = .returned (.bool t) ∧ Grew w w' := by
  subst h; exact formed_any o.n o.p o.c o.r o.k o.f o.m o.fam w hp hc

set_option maxRecDepth 100000 in
set_option maxHeartbeats 4000000 in
theorem rformed_any (n : Int) (p c : ByteArray) (r k f m : Int) (fam : Bool) (w : World) (hp : p.size ≤ maxLen) (hc : c.size ≤ maxLen) :
    Calls Try.prog 22 #[.agg #[.int .i64 n, .string p, .string c, .int .i64 r, .int .i64 k, .int .i64 f, .int .i64 m, .bool fam]] w fun e w' => e = .returned (.bool (formB ⟨n, p, c, r, k, f, m, fam⟩)) ∧ Grew w w' := by
  by_cases z0 : 1 ≤ n
  case neg =>
    have HV : Hid (formB ⟨n, p, c, r, k, f, m, fam⟩ = false) := by unfold Hid formB; simp only [decide_eq_false z0, Bool.false_and]
    have q0 : decide (1 ≤ n) = false := decide_eq_false (by omega)
    go_enter Try.func22, Try.ntmps22
    go_wp2_with fail
    go_ret
    exact ⟨ret_bool HV.out.symm, (Grew.refl w).alloc _⟩
  by_cases z1 : n ≤ 1000000
  case neg =>
    have HV : Hid (formB ⟨n, p, c, r, k, f, m, fam⟩ = false) := by unfold Hid formB; simp only [decide_eq_false z1, Bool.and_false, Bool.false_and]
    have q0 : decide (1 ≤ n) = true := decide_eq_true (by omega)
    have q1 : decide (n ≤ 1000000) = false := decide_eq_false (by omega)
    go_enter Try.func22, Try.ntmps22
    go_wp2_with fail
    go_ret
    exact ⟨ret_bool HV.out.symm, (Grew.refl w).alloc _⟩
  cases z2 : nameB p with
  | false =>
    have HV : Hid (formB ⟨n, p, c, r, k, f, m, fam⟩ = false) := by unfold Hid formB; simp only [z2, Bool.and_false, Bool.false_and]
    have Hp := Lib.hid z2
    clear z2
    have q0 : decide (1 ≤ n) = true := decide_eq_true (by omega)
    have q1 : decide (n ≤ 1000000) = true := decide_eq_true (by omega)
    go_enter Try.func22, Try.ntmps22
    go_wp2_with (first | (go_at_call 31; ((with_reducible refine (rname_is Hp.out hp _).mono ?_); rintro e w' ⟨rfl, rfl⟩)))
    go_ret
    exact ⟨ret_bool HV.out.symm, (Grew.refl w).alloc _⟩
  | true =>
  have Hp := Lib.hid z2
  clear z2
  cases z3 : nameB c with
  | false =>
    have HV : Hid (formB ⟨n, p, c, r, k, f, m, fam⟩ = false) := by unfold Hid formB; simp only [z3, Bool.and_false, Bool.false_and]
    have Hc := Lib.hid z3
    clear z3
    have q0 : decide (1 ≤ n) = true := decide_eq_true (by omega)
    have q1 : decide (n ≤ 1000000) = true := decide_eq_true (by omega)
    go_enter Try.func22, Try.ntmps22
    go_wp2_with (first | (go_at_call 31; ((with_reducible refine (rname_is Hp.out hp _).mono ?_); rintro e w' ⟨rfl, rfl⟩)) | (go_at_call 31; ((with_reducible refine (rname_is Hc.out hc _).mono ?_); rintro e w' ⟨rfl, rfl⟩)))
    go_ret
    exact ⟨ret_bool HV.out.symm, (Grew.refl w).alloc _⟩
  | true =>
  have Hc := Lib.hid z3
  clear z3
  by_cases z4 : 0 ≤ r
  case neg =>
    have HV : Hid (formB ⟨n, p, c, r, k, f, m, fam⟩ = false) := by unfold Hid formB; unfold numsB; simp only [decide_eq_false z4, Bool.and_false, Bool.false_and]
    have q0 : decide (1 ≤ n) = true := decide_eq_true (by omega)
    have q1 : decide (n ≤ 1000000) = true := decide_eq_true (by omega)
    have q4 : decide (0 ≤ r) = false := decide_eq_false (by omega)
    go_enter Try.func22, Try.ntmps22
    go_wp2_with (first | (go_at_call 31; ((with_reducible refine (rname_is Hp.out hp _).mono ?_); rintro e w' ⟨rfl, rfl⟩)) | (go_at_call 31; ((with_reducible refine (rname_is Hc.out hc _).mono ?_); rintro e w' ⟨rfl, rfl⟩)))
    go_ret
    exact ⟨ret_bool HV.out.symm, (Grew.refl w).alloc _⟩
  by_cases z5 : r ≤ 1000000
  case neg =>
    have HV : Hid (formB ⟨n, p, c, r, k, f, m, fam⟩ = false) := by unfold Hid formB; unfold numsB; simp only [decide_eq_false z5, Bool.and_false, Bool.false_and]
    have q0 : decide (1 ≤ n) = true := decide_eq_true (by omega)
    have q1 : decide (n ≤ 1000000) = true := decide_eq_true (by omega)
    have q4 : decide (0 ≤ r) = true := decide_eq_true (by omega)
    have q5 : decide (r ≤ 1000000) = false := decide_eq_false (by omega)
    go_enter Try.func22, Try.ntmps22
    go_wp2_with (first | (go_at_call 31; ((with_reducible refine (rname_is Hp.out hp _).mono ?_); rintro e w' ⟨rfl, rfl⟩)) | (go_at_call 31; ((with_reducible refine (rname_is Hc.out hc _).mono ?_); rintro e w' ⟨rfl, rfl⟩)))
    go_ret
    exact ⟨ret_bool HV.out.symm, (Grew.refl w).alloc _⟩
  by_cases z6 : 0 ≤ k
  case neg =>
    have HV : Hid (formB ⟨n, p, c, r, k, f, m, fam⟩ = false) := by unfold Hid formB; unfold numsB; simp only [decide_eq_false z6, Bool.and_false, Bool.false_and]
    have q0 : decide (1 ≤ n) = true := decide_eq_true (by omega)
    have q1 : decide (n ≤ 1000000) = true := decide_eq_true (by omega)
    have q4 : decide (0 ≤ r) = true := decide_eq_true (by omega)
    have q5 : decide (r ≤ 1000000) = true := decide_eq_true (by omega)
    have q6 : decide (0 ≤ k) = false := decide_eq_false (by omega)
    go_enter Try.func22, Try.ntmps22
    go_wp2_with (first | (go_at_call 31; ((with_reducible refine (rname_is Hp.out hp _).mono ?_); rintro e w' ⟨rfl, rfl⟩)) | (go_at_call 31; ((with_reducible refine (rname_is Hc.out hc _).mono ?_); rintro e w' ⟨rfl, rfl⟩)))
    go_ret
    exact ⟨ret_bool HV.out.symm, (Grew.refl w).alloc _⟩
  by_cases z7 : k ≤ 36524
  case neg =>
    have HV : Hid (formB ⟨n, p, c, r, k, f, m, fam⟩ = false) := by unfold Hid formB; unfold numsB; simp only [decide_eq_false z7, Bool.and_false, Bool.false_and]
    have q0 : decide (1 ≤ n) = true := decide_eq_true (by omega)
    have q1 : decide (n ≤ 1000000) = true := decide_eq_true (by omega)
    have q4 : decide (0 ≤ r) = true := decide_eq_true (by omega)
    have q5 : decide (r ≤ 1000000) = true := decide_eq_true (by omega)
    have q6 : decide (0 ≤ k) = true := decide_eq_true (by omega)
    have q7 : decide (k ≤ 36524) = false := decide_eq_false (by omega)
    go_enter Try.func22, Try.ntmps22
    go_wp2_with (first | (go_at_call 31; ((with_reducible refine (rname_is Hp.out hp _).mono ?_); rintro e w' ⟨rfl, rfl⟩)) | (go_at_call 31; ((with_reducible refine (rname_is Hc.out hc _).mono ?_); rintro e w' ⟨rfl, rfl⟩)))
    go_ret
    exact ⟨ret_bool HV.out.symm, (Grew.refl w).alloc _⟩
  by_cases z8 : 0 ≤ f
  case neg =>
    have HV : Hid (formB ⟨n, p, c, r, k, f, m, fam⟩ = false) := by unfold Hid formB; unfold numsB; simp only [decide_eq_false z8, Bool.and_false, Bool.false_and]
    have q0 : decide (1 ≤ n) = true := decide_eq_true (by omega)
    have q1 : decide (n ≤ 1000000) = true := decide_eq_true (by omega)
    have q4 : decide (0 ≤ r) = true := decide_eq_true (by omega)
    have q5 : decide (r ≤ 1000000) = true := decide_eq_true (by omega)
    have q6 : decide (0 ≤ k) = true := decide_eq_true (by omega)
    have q7 : decide (k ≤ 36524) = true := decide_eq_true (by omega)
    have q8 : decide (0 ≤ f) = false := decide_eq_false (by omega)
    go_enter Try.func22, Try.ntmps22
    go_wp2_with (first | (go_at_call 31; ((with_reducible refine (rname_is Hp.out hp _).mono ?_); rintro e w' ⟨rfl, rfl⟩)) | (go_at_call 31; ((with_reducible refine (rname_is Hc.out hc _).mono ?_); rintro e w' ⟨rfl, rfl⟩)))
    go_ret
    exact ⟨ret_bool HV.out.symm, (Grew.refl w).alloc _⟩
  by_cases z9 : f ≤ 1199
  case neg =>
    have HV : Hid (formB ⟨n, p, c, r, k, f, m, fam⟩ = false) := by unfold Hid formB; unfold numsB; simp only [decide_eq_false z9, Bool.and_false, Bool.false_and]
    have q0 : decide (1 ≤ n) = true := decide_eq_true (by omega)
    have q1 : decide (n ≤ 1000000) = true := decide_eq_true (by omega)
    have q4 : decide (0 ≤ r) = true := decide_eq_true (by omega)
    have q5 : decide (r ≤ 1000000) = true := decide_eq_true (by omega)
    have q6 : decide (0 ≤ k) = true := decide_eq_true (by omega)
    have q7 : decide (k ≤ 36524) = true := decide_eq_true (by omega)
    have q8 : decide (0 ≤ f) = true := decide_eq_true (by omega)
    have q9 : decide (f ≤ 1199) = false := decide_eq_false (by omega)
    go_enter Try.func22, Try.ntmps22
    go_wp2_with (first | (go_at_call 31; ((with_reducible refine (rname_is Hp.out hp _).mono ?_); rintro e w' ⟨rfl, rfl⟩)) | (go_at_call 31; ((with_reducible refine (rname_is Hc.out hc _).mono ?_); rintro e w' ⟨rfl, rfl⟩)))
    go_ret
    exact ⟨ret_bool HV.out.symm, (Grew.refl w).alloc _⟩
  by_cases z10 : 0 ≤ m
  case neg =>
    have HV : Hid (formB ⟨n, p, c, r, k, f, m, fam⟩ = false) := by unfold Hid formB; unfold numsB; simp only [decide_eq_false z10, Bool.and_false, Bool.false_and]
    have q0 : decide (1 ≤ n) = true := decide_eq_true (by omega)
    have q1 : decide (n ≤ 1000000) = true := decide_eq_true (by omega)
    have q4 : decide (0 ≤ r) = true := decide_eq_true (by omega)
    have q5 : decide (r ≤ 1000000) = true := decide_eq_true (by omega)
    have q6 : decide (0 ≤ k) = true := decide_eq_true (by omega)
    have q7 : decide (k ≤ 36524) = true := decide_eq_true (by omega)
    have q8 : decide (0 ≤ f) = true := decide_eq_true (by omega)
    have q9 : decide (f ≤ 1199) = true := decide_eq_true (by omega)
    have q10 : decide (0 ≤ m) = false := decide_eq_false (by omega)
    go_enter Try.func22, Try.ntmps22
    go_wp2_with (first | (go_at_call 31; ((with_reducible refine (rname_is Hp.out hp _).mono ?_); rintro e w' ⟨rfl, rfl⟩)) | (go_at_call 31; ((with_reducible refine (rname_is Hc.out hc _).mono ?_); rintro e w' ⟨rfl, rfl⟩)))
    go_ret
    exact ⟨ret_bool HV.out.symm, (Grew.refl w).alloc _⟩
  by_cases z11 : m ≤ 1000000000000
  case neg =>
    have HV : Hid (formB ⟨n, p, c, r, k, f, m, fam⟩ = false) := by unfold Hid formB; unfold numsB; simp only [decide_eq_false z11, Bool.and_false]
    have q0 : decide (1 ≤ n) = true := decide_eq_true (by omega)
    have q1 : decide (n ≤ 1000000) = true := decide_eq_true (by omega)
    have q4 : decide (0 ≤ r) = true := decide_eq_true (by omega)
    have q5 : decide (r ≤ 1000000) = true := decide_eq_true (by omega)
    have q6 : decide (0 ≤ k) = true := decide_eq_true (by omega)
    have q7 : decide (k ≤ 36524) = true := decide_eq_true (by omega)
    have q8 : decide (0 ≤ f) = true := decide_eq_true (by omega)
    have q9 : decide (f ≤ 1199) = true := decide_eq_true (by omega)
    have q10 : decide (0 ≤ m) = true := decide_eq_true (by omega)
    have q11 : decide (m ≤ 1000000000000) = false := decide_eq_false (by omega)
    go_enter Try.func22, Try.ntmps22
    go_wp2_with (first | (go_at_call 31; ((with_reducible refine (rname_is Hp.out hp _).mono ?_); rintro e w' ⟨rfl, rfl⟩)) | (go_at_call 31; ((with_reducible refine (rname_is Hc.out hc _).mono ?_); rintro e w' ⟨rfl, rfl⟩)))
    go_ret
    exact ⟨ret_bool HV.out.symm, (Grew.refl w).alloc _⟩
  have HV : Hid (formB ⟨n, p, c, r, k, f, m, fam⟩ = true) := by unfold Hid formB numsB; simp only [decide_eq_true z0, decide_eq_true z1, Hp.out, Hc.out, decide_eq_true z4, decide_eq_true z5, decide_eq_true z6, decide_eq_true z7, decide_eq_true z8, decide_eq_true z9, decide_eq_true z10, decide_eq_true z11, Bool.and_true]
  have q0 : decide (1 ≤ n) = true := decide_eq_true (by omega)
  have q1 : decide (n ≤ 1000000) = true := decide_eq_true (by omega)
  have q4 : decide (0 ≤ r) = true := decide_eq_true (by omega)
  have q5 : decide (r ≤ 1000000) = true := decide_eq_true (by omega)
  have q6 : decide (0 ≤ k) = true := decide_eq_true (by omega)
  have q7 : decide (k ≤ 36524) = true := decide_eq_true (by omega)
  have q8 : decide (0 ≤ f) = true := decide_eq_true (by omega)
  have q9 : decide (f ≤ 1199) = true := decide_eq_true (by omega)
  have q10 : decide (0 ≤ m) = true := decide_eq_true (by omega)
  have q11 : decide (m ≤ 1000000000000) = true := decide_eq_true (by omega)
  go_enter Try.func22, Try.ntmps22
  go_wp2_with (first | (go_at_call 31; ((with_reducible refine (rname_is Hp.out hp _).mono ?_); rintro e w' ⟨rfl, rfl⟩)) | (go_at_call 31; ((with_reducible refine (rname_is Hc.out hc _).mono ?_); rintro e w' ⟨rfl, rfl⟩)))
  go_ret
  exact ⟨ret_bool HV.out.symm, (Grew.refl w).alloc _⟩
theorem rformed_val {o : Ord} {t : Bool} (h : formB o = t) (hp : o.p.size ≤ maxLen) (hc : o.c.size ≤ maxLen) (w : World) : Calls Try.prog 22 #[ov o] w fun e w' => e = .returned (.bool t) ∧ Grew w w' := by
  subst h; exact rformed_any o.n o.p o.c o.r o.k o.f o.m o.fam w hp hc
end Go.Proofs.Ytjpnodmcglcihaa
