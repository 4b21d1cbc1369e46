/-
  What the reference functions of the commitment layer return.
-/
import Derived.Test.YtidjelhbliekbaaDoorFns
import Derived.LoopTactic
namespace Go.Proofs.YtidjelhbliekbaaDoor
open Go.RowKit Go.Shelf Go.Proofs Wage26

def pickI (c n : Int) : Int := (if c < 0 then -(c + 1) else c) % n
theorem pickI_bd (c : Int) {n : Int} (hn : 0 < n) : 0 ≤ pickI c n ∧ pickI c n < n := ⟨Int.emod_nonneg _ (by omega), Int.emod_lt_of_pos _ hn⟩

theorem ret_int {k : IntKind} {a b : Int} (h : a = b) : Ending.returned (.int k a) = .returned (.int k b) := by rw [h]
theorem pick_any (c n : Int) (w : World) (h0 : -9223372036854775808 ≤ c) (h1 : c ≤ 9223372036854775807) (hn : 1 ≤ n) (hn' : n ≤ 9223372036854775807) :
    Calls Tryd.prog 10 #[.int .i64 c, .int .i64 n] w fun e w' => e = .returned (.int .i64 (pickI c n)) ∧ w = w' := by
  by_cases h : c < 0
  · have E : Hid (pickI c n = (-(c + 1)) % n) := by unfold Hid pickI; rw [if_pos h]
    go_enter Tryd.func10, Tryd.ntmps10
    go_wp2
    go_ret
    exact ⟨ret_int (by rw [E.out, ← Int.tmod_eq_emod_of_nonneg (by omega), Int.neg_tmod]), rfl⟩
  · have E : Hid (pickI c n = c % n) := by unfold Hid pickI; rw [if_neg h]
    go_enter Tryd.func10, Tryd.ntmps10
    go_wp2
    go_ret
    exact ⟨by rw [E.out]; rfl, rfl⟩

/-- The power so far, when the bits from i on have been taken. -/
theorem pw_step (b e i : Nat) : pw b (e / 2 ^ (i + 1)) * pw b (e / 2 ^ (i + 1)) % P = pw b (2 * (e / 2 ^ (i + 1))) := by
  rw [pw_add, Nat.two_mul]
theorem div_step (e i : Nat) : e / 2 ^ i = 2 * (e / 2 ^ (i + 1)) + (e / 2 ^ i) % 2 := by
  rw [Nat.pow_succ, ← Nat.div_div_eq_div_mul]; omega

theorem bitv {e : Int} (he0 : 0 ≤ e) (he : e ≤ 9223372036854775807) (i : Nat) : (bits .and .i64 (e / 2 ^ i) 1 == 1) = ((e.toNat / 2 ^ i) % 2 == 1) := by
  have h : e / 2 ^ i = ((e.toNat / 2 ^ i : Nat) : Int) := by
    rw [Int.natCast_ediv, Int.toNat_of_nonneg he0]; simp
  rw [h]
  exact and_one _ (Nat.le_trans (Nat.div_le_self _ _) (toNat_le he))
theorem closeFalse {b e q : Int} {i : Nat} (he0 : 0 ≤ e) (he : e ≤ 9223372036854775807) (hq : q = ((pw b.toNat (e.toNat / 2 ^ (i + 1)) : Nat) : Int)) (hb : (bits .and .i64 (e / 2 ^ i) 1 == 1) = false) :
    q * q % 2147483579 = ((pw b.toNat (e.toNat / 2 ^ i) : Nat) : Int) := by
  rw [bitv he0 he] at hb
  have h0 : e.toNat / 2 ^ i % 2 = 0 := by simpa using hb
  rw [hq, div_step e.toNat i, h0]
  have := pw_step b.toNat e.toNat i
  rw [show 2 * (e.toNat / 2 ^ (i + 1)) + 0 = 2 * (e.toNat / 2 ^ (i + 1)) from rfl, ← this]
  simp
theorem closeTrue {b e q : Int} {i : Nat} (he0 : 0 ≤ e) (he : e ≤ 9223372036854775807) (hb0 : 0 ≤ b) (hb1 : b < 2147483579) (hq : q = ((pw b.toNat (e.toNat / 2 ^ (i + 1)) : Nat) : Int)) (hb : (bits .and .i64 (e / 2 ^ i) 1 == 1) = true) :
    (wrap64 (q * q % 2147483579 * b)).tmod 2147483579 = ((pw b.toNat (e.toNat / 2 ^ i) : Nat) : Int) := by
  rw [bitv he0 he] at hb
  have h0 : e.toNat / 2 ^ i % 2 = 1 := by simpa using hb
  have m' : (wrap64 (q * q % 2147483579 * b)).tmod 2147483579 = q * q % 2147483579 * b % 2147483579 := by
    have mb := mul_bd (r := q * q % 2147483579) (q := b) (by omega) (by omega) hb0 hb1
    rw [IntWalk.wrap64_in _ ⟨by omega, by omega⟩]
    exact Int.tmod_eq_emod_of_nonneg mb.1
  have e1 : q * q % 2147483579 = ((pw b.toNat (2 * (e.toNat / 2 ^ (i + 1))) : Nat) : Int) := by rw [hq, ← pw_step]; simp
  have e2 := pw_add b.toNat (2 * (e.toNat / 2 ^ (i + 1))) 1
  rw [pw_self hb0 hb1] at e2
  rw [m', e1, div_step e.toNat i, h0, ← e2]
  simp [Int.toNat_of_nonneg hb0]

theorem rpower_ok (b e : Int) (w : World) (hb0 : 0 ≤ b) (hb : b < 2147483579) (he0 : 0 ≤ e) (he : e ≤ 9223372036854775807) :
    Calls Tryd.prog 11 #[.int .i64 b, .int .i64 e] w fun r w' => r = .returned (.int .i64 (powI b e)) ∧ w = w' := by
  have d1 : decide (b < 0) = false := decide_eq_false (by omega)
  have d2 : decide (2147483579 ≤ b) = false := decide_eq_false (by omega)
  have d3 : decide (e < 0) = false := decide_eq_false (by omega)
  go_enter Tryd.func11, Tryd.ntmps11
  go_wp2
  go_loop [5, 6] (fun o i => ∃ k : Nat, k ≤ 63 ∧ i = .int .i64 ((k : Int) - 1) ∧ o = .int .i64 ((pw b.toNat (e.toNat / 2 ^ k) : Nat) : Int)) (fun _ i => (intOf i + 1).toNat)
  case atStart => exact ⟨63, Nat.le_refl _, rfl, by rw [Nat.div_eq_of_lt (by omega)]; rfl⟩
  case round =>
    obtain ⟨k, hk, rfl, rfl⟩ := hrel
    rcases Nat.eq_zero_or_pos k with rfl | hpos
    · go_wp2
      go_ret
      exact ⟨ret_int (powI_pos hb0 hb he0).symm, rfl⟩
    · obtain ⟨i, rfl⟩ : ∃ i, k = i + 1 := ⟨k - 1, by omega⟩
      obtain ⟨q, hq⟩ : ∃ q : Int, q = ((pw b.toNat (e.toNat / 2 ^ (i + 1)) : Nat) : Int) := ⟨_, rfl⟩
      rw [← hq]
      have q0 : 0 ≤ q := by omega
      have q1 : q < 2147483579 := by have := pw_lt b.toNat (e.toNat / 2 ^ (i + 1)); unfold P at this; omega
      have HQ := Lib.hid hq
      clear hq
      have m := mul_bd q0 q1 q0 q1
      obtain ⟨m0, m1⟩ := m
      go_wp2
      · refine ⟨⟨i, by omega, rfl, ?_⟩, by simp [intOf]⟩
        rw [closeTrue he0 he hb0 hb HQ.out (by assumption)]
      · refine ⟨⟨i, by omega, rfl, ?_⟩, by simp [intOf]⟩
        rw [closeFalse he0 he HQ.out (by assumption)]

theorem rpower_bad (b e : Int) (w : World) (h : ¬ (0 ≤ b ∧ b < 2147483579 ∧ 0 ≤ e)) :
    Calls Tryd.prog 11 #[.int .i64 b, .int .i64 e] w fun r w' => r = .returned (.int .i64 0) ∧ w = w' := by
  by_cases h1 : b < 0
  · clear h
    have d1 : decide (b < 0) = true := decide_eq_true h1
    go_enter Tryd.func11, Tryd.ntmps11
    go_wp2
    go_ret
    exact ⟨rfl, rfl⟩
  · by_cases h2 : 2147483579 ≤ b
    · clear h
      have d1 : decide (b < 0) = false := decide_eq_false h1
      have d2 : decide (2147483579 ≤ b) = true := decide_eq_true h2
      go_enter Tryd.func11, Tryd.ntmps11
      go_wp2
      go_ret
      exact ⟨rfl, rfl⟩
    · have h3 : e < 0 := by omega
      clear h
      have d1 : decide (b < 0) = false := decide_eq_false h1
      have d2 : decide (2147483579 ≤ b) = false := decide_eq_false h2
      have d3 : decide (e < 0) = true := decide_eq_true h3
      go_enter Tryd.func11, Tryd.ntmps11
      go_wp2
      go_ret
      exact ⟨rfl, rfl⟩

theorem rpower_any (b e : Int) (w : World) (he : e ≤ 9223372036854775807) :
    Calls Tryd.prog 11 #[.int .i64 b, .int .i64 e] w fun r w' => r = .returned (.int .i64 (powI b e)) ∧ w = w' := by
  by_cases h : 0 ≤ b ∧ b < 2147483579 ∧ 0 ≤ e
  · exact rpower_ok b e w h.1 h.2.1 h.2.2 he
  · rw [powI_neg h]
    exact rpower_bad b e w h

set_option maxHeartbeats 1000000 in
theorem rcommit_ok (v r : Int) (w : World) (h0 : 0 ≤ v) (h1 : v < 1073741789) (h2 : 0 ≤ r) (h3 : r < 1073741789) :
    Calls Tryd.prog 13 #[.int .i64 v, .int .i64 r] w fun e w' => e = .returned (.tuple #[.int .i64 (cmI v r), .int .i64 0]) ∧ w = w' := by
  have d1 : decide (v < 0) = false := decide_eq_false (by omega)
  have d2 : decide (1073741789 ≤ v) = false := decide_eq_false (by omega)
  have d3 : decide (r < 0) = false := decide_eq_false (by omega)
  have d4 : decide (1073741789 ≤ r) = false := decide_eq_false (by omega)
  go_enter Tryd.func13, Tryd.ntmps13
  go_wp2_with fail
  refine (rpower_any 4 v _ (by omega)).mono ?_
  rintro e w' ⟨rfl, rfl⟩
  go_wp2_with fail
  refine (rpower_any 9 r _ (by omega)).mono ?_
  rintro e w' ⟨rfl, rfl⟩
  have m := mul_bd (powI_bd 4 v).1 (powI_bd 4 v).2 (powI_bd 9 r).1 (powI_bd 9 r).2
  obtain ⟨m0, m1⟩ := m
  go_wp2_with fail
  go_ret2
  exact ⟨ret2_int (cmI_pow h0 h1 h2 h3) rfl, rfl⟩

set_option maxHeartbeats 1000000 in
theorem rcommit_bad (v r : Int) (w : World) (h : ¬ (0 ≤ v ∧ v < 1073741789 ∧ 0 ≤ r ∧ r < 1073741789)) :
    Calls Tryd.prog 13 #[.int .i64 v, .int .i64 r] w fun e w' => e = .returned (.tuple #[.int .i64 0, .int .i64 1]) ∧ w = w' := by
  by_cases h1 : v < 0
  · clear h
    have d1 : decide (v < 0) = true := decide_eq_true h1
    go_enter Tryd.func13, Tryd.ntmps13
    go_wp2
    go_ret2
    exact ⟨rfl, rfl⟩
  have d1 : decide (v < 0) = false := decide_eq_false h1
  by_cases h2 : 1073741789 ≤ v
  · clear h
    have d2 : decide (1073741789 ≤ v) = true := decide_eq_true h2
    go_enter Tryd.func13, Tryd.ntmps13
    go_wp2
    go_ret2
    exact ⟨rfl, rfl⟩
  have d2 : decide (1073741789 ≤ v) = false := decide_eq_false h2
  by_cases h3 : r < 0
  · clear h
    have d3 : decide (r < 0) = true := decide_eq_true h3
    go_enter Tryd.func13, Tryd.ntmps13
    go_wp2
    go_ret2
    exact ⟨rfl, rfl⟩
  have d3 : decide (r < 0) = false := decide_eq_false h3
  have h4 : 1073741789 ≤ r := by omega
  have d4 : decide (1073741789 ≤ r) = true := decide_eq_true h4
  clear h
  go_enter Tryd.func13, Tryd.ntmps13
  go_wp2
  go_ret2
  exact ⟨rfl, rfl⟩

theorem rcommit_any (v r : Int) (w : World) :
    Calls Tryd.prog 13 #[.int .i64 v, .int .i64 r] w fun e w' => e = .returned (.tuple #[.int .i64 (cmI v r), .int .i64 (cmE v r)]) ∧ w = w' := by
  by_cases h : 0 ≤ v ∧ v < 1073741789 ∧ 0 ≤ r ∧ r < 1073741789
  · rw [show cmE v r = 0 by unfold cmE; rw [okQ_true h.1 h.2.1, okQ_true h.2.2.1 h.2.2.2]; rfl]
    exact rcommit_ok v r w h.1 h.2.1 h.2.2.1 h.2.2.2
  · have hq : (okQ v && okQ r) = false := by
      rw [Bool.and_eq_false_iff]
      by_cases h1 : 0 ≤ v ∧ v < 1073741789
      · exact .inr (okQ_false (by omega))
      · exact .inl (okQ_false (by omega))
    rw [show cmI v r = 0 by unfold cmI; rw [hq]; rfl, show cmE v r = 1 by unfold cmE; rw [hq]; rfl]
    exact rcommit_bad v r w h

set_option maxHeartbeats 1000000 in
theorem relement_any (x : Int) (w : World) :
    Calls Tryd.prog 20 #[.int .i64 x] w fun e w' => e = .returned (.bool (elI x)) ∧ w = w' := by
  by_cases h1 : 1 ≤ x
  · have d1 : decide (1 ≤ x) = true := decide_eq_true h1
    by_cases h2 : x < 2147483579
    · have d2 : decide (x < 2147483579) = true := decide_eq_true h2
      have e : elI x = (powI x 1073741789 == 1) := by unfold elI; rw [decide_eq_true ⟨h1, h2⟩]; rfl
      have E := Lib.hid e
      clear e
      go_enter Tryd.func20, Tryd.ntmps20
      go_wp2_with (go_at_call 11; refine (rpower_any _ _ _ (by decide)).mono ?_; rintro e w' ⟨rfl, rfl⟩)
      go_ret
      exact ⟨by rw [E.out]; rfl, rfl⟩
    · have d2 : decide (x < 2147483579) = false := decide_eq_false h2
      have e : elI x = false := by unfold elI; rw [decide_eq_false (by omega)]; rfl
      have E := Lib.hid e
      clear e
      go_enter Tryd.func20, Tryd.ntmps20
      go_wp2_with fail
      go_ret
      exact ⟨by rw [E.out]; rfl, rfl⟩
  · have d1 : decide (1 ≤ x) = false := decide_eq_false h1
    have e : elI x = false := by unfold elI; rw [decide_eq_false (by omega)]; rfl
    have E := Lib.hid e
    clear e
    go_enter Tryd.func20, Tryd.ntmps20
    go_wp2_with fail
    go_ret
    exact ⟨by rw [E.out]; rfl, rfl⟩

set_option maxHeartbeats 1000000 in
theorem radd_any (a b : Int) (w : World) :
    Calls Tryd.prog 15 #[.int .i64 a, .int .i64 b] w fun e w' => e = .returned (.tuple #[.int .i64 (adI a b), .int .i64 (adE a b)]) ∧ w = w' := by
  cases ha : elI a with
  | false =>
    have HA := Lib.hid ha
    clear ha
    go_enter Tryd.func15, Tryd.ntmps15
    go_wp2_with fail
    refine (relement_any a _).mono ?_
    rintro e w1 ⟨rfl, rfl⟩
    rw [HA.out]
    go_wp2_with fail
    refine (relement_any b _).mono ?_
    rintro e w1 ⟨rfl, rfl⟩
    go_wp2_with fail
    go_ret2
    exact ⟨ret2_int (by unfold adI; rw [HA.out]; rfl) (by unfold adE; rw [HA.out]; rfl), rfl⟩
  | true =>
    have ba := elI_bd ha
    have HA := Lib.hid ha
    clear ha
    cases hb : elI b with
    | false =>
      have HB := Lib.hid hb
      clear hb
      go_enter Tryd.func15, Tryd.ntmps15
      go_wp2_with fail
      refine (relement_any a _).mono ?_
      rintro e w1 ⟨rfl, rfl⟩
      rw [HA.out]
      go_wp2_with fail
      refine (relement_any b _).mono ?_
      rintro e w2 ⟨rfl, rfl⟩
      rw [HB.out]
      go_wp2_with fail
      go_ret2
      exact ⟨ret2_int (by unfold adI; rw [HA.out, HB.out]; rfl) (by unfold adE; rw [HA.out, HB.out]; rfl), rfl⟩
    | true =>
      have bb := elI_bd hb
      have HB := Lib.hid hb
      clear hb
      go_enter Tryd.func15, Tryd.ntmps15
      go_wp2_with fail
      refine (relement_any a _).mono ?_
      rintro e w1 ⟨rfl, rfl⟩
      rw [HA.out]
      go_wp2_with fail
      refine (relement_any b _).mono ?_
      rintro e w2 ⟨rfl, rfl⟩
      rw [HB.out]
      obtain ⟨a0, a1⟩ := ba
      obtain ⟨b0, b1⟩ := bb
      have m := mul_bd (r := a) (q := b) (by omega) a1 (by omega) b1
      obtain ⟨m0, m1⟩ := m
      go_wp2_with fail
      go_ret2
      exact ⟨ret2_int (by unfold adI; rw [HA.out, HB.out]; rfl) (by unfold adE; rw [HA.out, HB.out]; rfl), rfl⟩

set_option maxHeartbeats 1000000 in
theorem ropen_any (c v r : Int) (w : World) :
    Calls Tryd.prog 18 #[.int .i64 c, .int .i64 v, .int .i64 r] w fun e w' => e = .returned (.bool (opI c v r)) ∧ w = w' := by
  have hE : cmE v r = 0 ∨ cmE v r = 1 := by unfold cmE; split <;> simp
  rcases hE with hE | hE
  · have HE := Lib.hid hE
    clear hE
    go_enter Tryd.func18, Tryd.ntmps18
    go_wp2_with fail
    refine (rcommit_any v r _).mono ?_
    rintro e w1 ⟨rfl, rfl⟩
    rw [HE.out]
    go_wp2_with fail
    go_ret
    exact ⟨by unfold opI; rw [HE.out]; rfl, rfl⟩
  · have HE := Lib.hid hE
    clear hE
    go_enter Tryd.func18, Tryd.ntmps18
    go_wp2_with fail
    refine (rcommit_any v r _).mono ?_
    rintro e w1 ⟨rfl, rfl⟩
    rw [HE.out]
    go_wp2_with fail
    go_ret
    exact ⟨by unfold opI; rw [HE.out]; rfl, rfl⟩
end Go.Proofs.YtidjelhbliekbaaDoor
