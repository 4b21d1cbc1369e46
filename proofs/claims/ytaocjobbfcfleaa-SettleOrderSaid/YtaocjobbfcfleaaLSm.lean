/-
  The laws' own helpers: small; the cells of a desk's box.
-/
import Derived.Test.YtaocjobbfcfleaaHead
import Derived.Test.YtaocjobbfcfleaaRVal
import Derived.Test.YtaocjobbfcfleaaLawP
namespace Go.Proofs.Ytaocjobbfcfleaa
open Go.RowKit Go.Proofs WageMem WageOrd WageRec WageMap WageReg WageSet
theorem d_cells {w : World} {b : Nat} {A B : Option Addr} {n c m e : Nat} (h : w.rangeAt b 0 [.slice A n c, .slice B m e]) : w.cell? ⟨b, 0, none⟩ = some (.slice A n c) ∧ w.cell? ⟨b, 1, none⟩ = some (.slice B m e) := by
  have h0 := h 0 _ rfl
  have h1 := h 1 _ rfl
  simp only [Nat.zero_add] at h0 h1
  exact ⟨h0, h1⟩
def smallB (d : Desk) : Bool := decide (d.ss.length ≤ 30) && decide (d.an.length ≤ 60)
theorem small_parts {d : Desk} (h : smallB d = true) : d.ss.length ≤ 30 ∧ d.an.length ≤ 60 := by
  unfold smallB at h
  simpa using h
theorem rvalid_val {A B : Option Addr} {n c m e : Nat} {d : Desk} {w : World} {t : Bool} (h : DeskIs w A n c B m e d) (ht : validB d = t) : Calls Try.prog 22 #[.agg #[.slice A n c, .slice B m e]] w fun r w' => r = .returned (.bool t) ∧ Grew w w' := by subst ht; exact rvalid_any A B n c m e d w h
set_option maxRecDepth 100000 in
set_option maxHeartbeats 16000000 in
theorem small_val {A B : Option Addr} {n c m e : Nat} {d : Desk} {w : World} {t : Bool} (h : DeskIs w A n c B m e d) (ht : smallB d = t) : Calls Try.prog 21 #[.agg #[.slice A n c, .slice B m e]] w fun r w' => r = .returned (.bool t) ∧ Grew w w' := by
  have hn63 := h.1.1.le
  have hm63 := h.2.le
  unfold smallB at ht
  rw [h.1.1.1, h.2.1] at ht
  clear h
  by_cases hn : n ≤ 30
  · have q1 : decide ((n : Int) ≤ 30) = true := decide_eq_true (by omega)
    by_cases hm : m ≤ 60
    · have q2 : decide ((m : Int) ≤ 60) = true := decide_eq_true (by omega)
      have HT : Hid (true = t) := by unfold Hid; rw [← ht, decide_eq_true hn, decide_eq_true hm]; rfl
      clear ht
      go_enter Try.func21, Try.ntmps21
      go_wp2_with fail
      go_ret
      exact ⟨ret_bool HT.out, (Grew.refl w).alloc _⟩
    · have q2 : decide ((m : Int) ≤ 60) = false := decide_eq_false (by omega)
      have HT : Hid (false = t) := by unfold Hid; rw [← ht, decide_eq_false hm]; simp
      clear ht
      go_enter Try.func21, Try.ntmps21
      go_wp2_with fail
      go_ret
      exact ⟨ret_bool HT.out, (Grew.refl w).alloc _⟩
  · have q1 : decide ((n : Int) ≤ 30) = false := decide_eq_false (by omega)
    have HT : Hid (false = t) := by unfold Hid; rw [← ht, decide_eq_false hn]; simp
    clear ht
    go_enter Try.func21, Try.ntmps21
    go_wp2_with fail
    go_ret
    exact ⟨ret_bool HT.out, (Grew.refl w).alloc _⟩
end Go.Proofs.Ytaocjobbfcfleaa
