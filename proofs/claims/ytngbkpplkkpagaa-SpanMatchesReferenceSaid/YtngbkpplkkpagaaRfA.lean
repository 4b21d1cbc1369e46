/-
  The reference's functions on spans: Has.
-/
import Derived.Test.YtngbkpplkkpagaaHas
namespace Go.Proofs.Ytngbkpplkkpagaa
open Go.RowKit Go.Proofs WageMem WageSpan

set_option maxHeartbeats 1000000 in
theorem rhas_any (A : Option Addr) (n c : Nat) (ss : List Sp) (v : Int) (w : World) (h : Spans w A n c ss) :
    Calls Try.prog 24 #[.slice A n c, .int .i64 v] w fun e w' => e = .returned (.bool (hasB ss v)) ∧ Grew w w' := by
  have HH := Lib.hid h
  have hn := h.le
  clear h
  go_enter Try.func24, Try.ntmps24
  go_wp2_with fail
  go_loopw [5] (fun i wr => ∃ k : Nat, k ≤ n ∧ i = .int .i64 k ∧ Hid (hasB (ss.take k) v = false) ∧ Grew w wr) (fun i _ => n - (intOf i).toNat)
  case atStart => exact ⟨0, Nat.zero_le _, rfl, rfl, Grew.refl _⟩
  case round =>
    obtain ⟨k, hk, rfl, HE, hg⟩ := hrel
    by_cases hlt : k < n
    · obtain ⟨b, o, s, rfl, hs, c1, c2, b1, b2⟩ := (HH.out.grew hg).at_ hlt
      have ht := has_take hs v
      rw [HE.out, Bool.false_or] at ht
      have HS := Lib.hid hs
      have HT := Lib.hid ht
      obtain ⟨s1, s2⟩ := s
      simp only at c1 c2 b1 b2
      have i0 : (0 : Int) ≤ (k : Int) := by omega
      have i1 : (k : Int) < (n : Int) := by omega
      have hcs : (properB (s1, s2) = false ∧ inB (s1, s2) v = false) ∨ (properB (s1, s2) = true ∧ decide (s1 ≤ v) = false ∧ inB (s1, s2) v = false) ∨ (properB (s1, s2) = true ∧ decide (s1 ≤ v) = true ∧ decide (v < s2) = false ∧ inB (s1, s2) v = false) ∨
          (properB (s1, s2) = true ∧ decide (s1 ≤ v) = true ∧ decide (v < s2) = true ∧ inB (s1, s2) v = true) := by
        unfold inB
        cases properB (s1, s2) with
        | false => exact .inl ⟨rfl, rfl⟩
        | true =>
          by_cases q1 : s1 ≤ v
          · by_cases q2 : v < s2
            · exact .inr (.inr (.inr ⟨rfl, decide_eq_true q1, decide_eq_true q2, by simp [q1, q2]⟩))
            · exact .inr (.inr (.inl ⟨rfl, decide_eq_true q1, decide_eq_false q2, by simp [q2]⟩))
          · exact .inr (.inl ⟨rfl, decide_eq_false q1, by simp [q1]⟩)
      clear hs ht HE
      rcases hcs with ⟨q0, qi⟩ | ⟨q0, q1, qi⟩ | ⟨q0, q1, q2, qi⟩ | ⟨q0, q1, q2, qi⟩
      all_goals
        have Q0 := Lib.hid q0
        have QI := Lib.hid qi
        clear q0 qi
        go_wp2_with fail
        refine (rproper_val Q0.out _).mono ?_
        rintro e w2 ⟨rfl, g2⟩
        replace c1 := g2.cell c1
        replace c2 := g2.cell c2
        have gt := hg.trans g2
        clear g2
        go_wp2_with fail
        first
          | (go_roundw
             case rel => exact ⟨k + 1, by omega, by go_num, by rw [HT.out]; exact QI.out, gt⟩
             case measure => simp [intOf]; omega)
          | (go_ret
             exact ⟨by rw [has_of HS.out QI.out]; rfl, gt⟩)
    · have hfin : Hid (hasB ss v = false) := by
        have := HE.out
        rw [List.take_of_length_le (by rw [HH.out.1]; omega)] at this
        exact this
      go_wp2_with fail
      go_ret
      exact ⟨by rw [hfin.out]; rfl, hg⟩
theorem rhas_val {A : Option Addr} {n c : Nat} {ss : List Sp} {v : Int} {w : World} (h : Spans w A n c ss) {t : Bool} (ht : hasB ss v = t) :
    Calls Try.prog 24 #[.slice A n c, .int .i64 v] w fun e w' => e = .returned (.bool t) ∧ Grew w w' := by
  subst ht; exact rhas_any A n c ss v w h
end Go.Proofs.Ytngbkpplkkpagaa
