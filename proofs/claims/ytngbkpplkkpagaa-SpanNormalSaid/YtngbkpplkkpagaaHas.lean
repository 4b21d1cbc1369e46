/-
  span.Has, short, far, moved.
-/
import Derived.Test.YtngbkpplkkpagaaSpB
namespace Go.Proofs.Ytngbkpplkkpagaa
open Go.RowKit Go.Proofs WageMem WageSpan

theorem has_take {ss : List Sp} {k : Nat} {s : Sp} (h : ss[k]? = some s) (v : Int) : hasB (ss.take (k + 1)) v = (hasB (ss.take k) v || inB s v) := by
  rw [List.take_add_one, h, has_append]; congr 1; show hasB [s] v = _; rw [has_cons, has_nil, Bool.or_false]
theorem has_of {ss : List Sp} {k : Nat} {s : Sp} (h : ss[k]? = some s) {v : Int} (hi : inB s v = true) : hasB ss v = true := has_iff.2 ⟨s, List.mem_of_getElem? h, hi⟩

set_option maxHeartbeats 1000000 in
theorem has_any (A : Option Addr) (n c : Nat) (ss : List Sp) (v : Int) (w : World) (h : Spans w A n c ss) :
    Calls Try.prog 23 #[.slice A n c, .int .i64 v] w fun e w' => e = .returned (.bool (hasB ss v)) ∧ Grew w w' := by
  have HH := Lib.hid h
  have hn := h.le
  clear h
  go_enter Try.func23, Try.ntmps23
  go_wp2_with fail
  go_loopw [9] (fun i wr => ∃ k : Nat, k ≤ n ∧ i = .int .i64 k ∧ Hid (hasB (ss.take k) v = false) ∧ Grew w wr) (fun i _ => n - (intOf i).toNat)
  case atStart => exact ⟨0, Nat.zero_le _, rfl, rfl, Grew.refl _⟩
  case round =>
    obtain ⟨k, hk, rfl, HE, hg⟩ := hrel
    by_cases hlt : k < n
    · obtain ⟨b, o, s, rfl, hs, c1, c2, b1, b2⟩ := (HH.out.grew hg).at_ hlt
      have ht := has_take hs v
      rw [HE.out, Bool.false_or] at ht
      have HS := Lib.hid hs
      have HT := Lib.hid ht
      obtain ⟨s1, s2⟩ := s
      simp only at c1 c2 b1 b2
      have i0 : (0 : Int) ≤ (k : Int) := by omega
      have i1 : (k : Int) < (n : Int) := by omega
      have hcs : (properB (s1, s2) = false ∧ inB (s1, s2) v = false) ∨ (properB (s1, s2) = true ∧ decide (s1 ≤ v) = false ∧ inB (s1, s2) v = false) ∨ (properB (s1, s2) = true ∧ decide (s1 ≤ v) = true ∧ decide (v < s2) = false ∧ inB (s1, s2) v = false) ∨
          (properB (s1, s2) = true ∧ decide (s1 ≤ v) = true ∧ decide (v < s2) = true ∧ inB (s1, s2) v = true) := by
        unfold inB
        cases properB (s1, s2) with
        | false => exact .inl ⟨rfl, rfl⟩
        | true =>
          by_cases q1 : s1 ≤ v
          · by_cases q2 : v < s2
            · exact .inr (.inr (.inr ⟨rfl, decide_eq_true q1, decide_eq_true q2, by simp [q1, q2]⟩))
            · exact .inr (.inr (.inl ⟨rfl, decide_eq_true q1, decide_eq_false q2, by simp [q2]⟩))
          · exact .inr (.inl ⟨rfl, decide_eq_false q1, by simp [q1]⟩)
      clear hs ht HE
      obtain ⟨wa, hwa⟩ : ∃ x, x = wr.alloc (.cells #[.int .i64 s1, .int .i64 s2] 33) := ⟨_, rfl⟩
      have ga : Grew wr wa := by rw [hwa]; exact (Grew.refl wr).alloc _
      have e1 : wa.cell? ⟨wr.heap.size, 0, none⟩ = some (.int .i64 s1) := by rw [hwa]; simp
      have e2 : wa.cell? ⟨wr.heap.size, 1, none⟩ = some (.int .i64 s2) := by rw [hwa]; simp
      rcases hcs with ⟨q0, qi⟩ | ⟨q0, q1, qi⟩ | ⟨q0, q1, q2, qi⟩ | ⟨q0, q1, q2, qi⟩
      all_goals
        have Q0 := Lib.hid q0
        have QI := Lib.hid qi
        clear q0 qi
        go_wp2_with fail
        rw [← hwa]
        clear hwa
        refine (proper_val Q0.out _).mono ?_
        rintro e w2 ⟨rfl, g2⟩
        replace e1 := g2.cell e1
        replace e2 := g2.cell e2
        have gt := hg.trans (ga.trans g2)
        clear ga g2
        go_wp2_with fail
        first
          | (go_roundw
             case rel => exact ⟨k + 1, by omega, by go_num, by rw [HT.out]; exact QI.out, gt⟩
             case measure => simp [intOf]; omega)
          | (go_ret
             exact ⟨by rw [has_of HS.out QI.out]; rfl, gt⟩)
    · have hfin : Hid (hasB ss v = false) := by
        have := HE.out
        rw [List.take_of_length_le (by rw [HH.out.1]; omega)] at this
        exact this
      go_wp2_with fail
      go_ret
      exact ⟨by rw [hfin.out]; rfl, hg⟩
theorem has_val {A : Option Addr} {n c : Nat} {ss : List Sp} {v : Int} {w : World} (h : Spans w A n c ss) {t : Bool} (ht : hasB ss v = t) :
    Calls Try.prog 23 #[.slice A n c, .int .i64 v] w fun e w' => e = .returned (.bool t) ∧ Grew w w' := by
  subst ht; exact has_any A n c ss v w h
end Go.Proofs.Ytngbkpplkkpagaa
