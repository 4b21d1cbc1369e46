/-
  The reference's functions on spans: sorted.
-/
import Derived.Test.YtngbkpplkkpagaaRfB
namespace Go.Proofs.Ytngbkpplkkpagaa
open Go.RowKit Go.Proofs WageMem WageSpan

theorem rsorted_len (l : List Sp) : (rsorted l).length = l.length := (rsorted_perm l).length_eq
theorem rsorted_big {l : List Sp} (h : ¬ l.length < 2) : rsorted l = rmerge (rsorted (l.take (l.length / 2))) (rsorted (l.drop (l.length / 2))) := by
  conv => lhs; rw [rsorted]
  rw [dif_neg h]
theorem rsorted_small {l : List Sp} (h : l.length < 2) : rsorted l = l := by rw [rsorted, dif_pos h]
theorem spans_len {w : World} {A : Option Addr} {n c : Nat} {ss : List Sp} (h : Spans w A n c ss) : ss.length = n := h.1
theorem merge_val {A B : Option Addr} {n m c e : Nat} {a b r : List Sp} {w : World} (ha : Spans w A n c a) (hb : Spans w B m e b) (hn : n ≤ 2000) (hm : m ≤ 2000) (h : rmerge a b = r) : Calls Try.prog 40 #[.slice A n c, .slice B m e] w (RetR r w) := by
  subst h; exact (merge_any A B n m c e a b w ha hb hn hm).mono fun _ _ h => h.read

set_option maxRecDepth 100000 in
set_option maxHeartbeats 4000000 in
theorem sorted_any : ∀ (N : Nat) (A : Option Addr) (n c : Nat) (a : List Sp) (w : World), n ≤ N → Spans w A n c a → n ≤ 2000 → Calls Try.prog 34 #[.slice A n c] w (RetR (rsorted a) w)
  | 0, A, n, c, a, w, hN, ha, _ => by
    have h2 : a.length < 2 := by rw [ha.1]; omega
    rw [rsorted_small h2]
    have HA := Lib.hid ha
    have t1 : decide ((n : Int) < 2) = true := decide_eq_true (by omega)
    clear ha h2
    go_enter Try.func34, Try.ntmps34
    go_wp2_with fail
    go_ret
    exact ⟨A, n, c, rfl, HA.out, Grew.refl _⟩
  | N + 1, A, n, c, a, w, hN, ha, hn => by
    by_cases h2 : n < 2
    · have h3 : a.length < 2 := by rw [ha.1]; exact h2
      rw [rsorted_small h3]
      have HA := Lib.hid ha
      have t1 : decide ((n : Int) < 2) = true := decide_eq_true (by omega)
      clear ha h3
      go_enter Try.func34, Try.ntmps34
      go_wp2_with fail
      go_ret
      exact ⟨A, n, c, rfl, HA.out, Grew.refl _⟩
    · have IH := Lib.hid (fun A n c a w h1 h2 h3 => sorted_any N A n c a w h1 h2 h3)
      rw [rsorted_big (by rw [ha.1]; exact h2), ha.1]
      obtain ⟨h, hh⟩ : ∃ h, n / 2 = h := ⟨_, rfl⟩
      rw [hh]
      have hb : 1 ≤ h ∧ h < n ∧ n - h ≤ N ∧ h ≤ N := by omega
      obtain ⟨b, o, s, rfl, _, _, _, _, _⟩ := ha.at_ (show 0 < n by omega)
      have hcap : n ≤ c := ha.2.1.1
      have hcm : c ≤ 9223372036854775807 := ha.2.1.2.1
      have t1 : decide ((n : Int) < 2) = false := decide_eq_false (by omega)
      have w1 : (n : Int).tdiv 2 = (h : Int) := by rw [Int.tdiv_eq_ediv_of_nonneg (by omega)]; omega
      have w2 : IntKind.i64.wrap (h : Int) = (h : Int) := IntWalk.i64_in _ (by omega)
      have w3 : (n : Int) / 2 = (h : Int) := by omega
      have q0 : (0 : Int) ≤ (h : Int) := by omega
      have q1 : (h : Int) ≤ (c : Int) := by omega
      have q2 : (h : Int) ≤ (n : Int) := by omega
      have q3 : ¬ c = h := by omega
      have q4 : (n : Int) ≤ (c : Int) := by omega
      have HL := Lib.hid ((ha.take_ (show h ≤ n by omega)).grew (Grew.refl w).drew)
      have HR := Lib.hid ((ha.drop_ (show h ≤ n by omega)).grew (Grew.refl w).drew)
      have L1 : Hid ((rsorted (a.take h)).length = h) := by unfold Hid; rw [rsorted_len, List.length_take, ha.1]; omega
      have L2 : Hid ((rsorted (a.drop h)).length = n - h) := by unfold Hid; rw [rsorted_len, List.length_drop, ha.1]
      clear ha hh
      go_enter Try.func34, Try.ntmps34
      go_wp2_with fail
      go_region_held3 (fun _ => True) (trivial)
        (first
          | (go_at_call 34; ((with_reducible refine (IH.out _ h c (a.take h) _ (by omega) HL.out (by omega)).mono ?_); rintro e w5 ⟨A5, n5, c5, rfl, s5, g5⟩))
          | (go_at_call 34; ((with_reducible refine (IH.out _ (n - h) (c - h) (a.drop h) _ (by omega) (HR.out.grew g5) (by omega)).mono ?_); rintro e w6 ⟨A6, n6, c6, rfl, s6, g6⟩))
          | (go_at_call 40; ((with_reducible refine (merge_val (s5.grew g6) s6 (by have := spans_len s5; have := L1.out; omega) (by have := spans_len s6; have := L2.out; omega) rfl).mono ?_); rintro e w7 ⟨A7, n7, c7, rfl, s7, g7⟩)))
      go_wp2_with fail
      go_ret
      exact ⟨A7, n7, c7, rfl, s7, (((Grew.refl w).drew.trans g5).trans g6).trans g7⟩
theorem sorted_val {A : Option Addr} {n c : Nat} {a r : List Sp} {w : World} (ha : Spans w A n c a) (hn : n ≤ 2000) (h : rsorted a = r) : Calls Try.prog 34 #[.slice A n c] w (RetR r w) := by
  subst h; exact sorted_any n A n c a w (Nat.le_refl _) ha hn
end Go.Proofs.Ytngbkpplkkpagaa
