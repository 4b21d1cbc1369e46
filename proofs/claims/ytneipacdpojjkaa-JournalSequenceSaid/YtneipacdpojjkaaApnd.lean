/-
  The law's function appended, where it answers true.
-/
import Derived.Test.YtneipacdpojjkaaJlawB
namespace Go.Proofs.Ytneipacdpojjkaa
open Go.RowKit Go.Proofs WageMem WageDisk

theorem Lists.take {w : World} {A : Option Addr} {n c : Nat} {ls : List (List UInt8)} (h : Lists w A n c ls) {k : Nat} (hk : k ≤ n) : Lists w A k c (ls.take k) := by
  refine ⟨by rw [List.length_take, h.1]; omega, Nat.le_trans hk h.2.1, h.2.2.1, fun hA => ⟨by have := (h.2.2.2.1 hA).1; omega, (h.2.2.2.1 hA).2⟩, fun hn => ?_⟩
  obtain ⟨b, o, e, hc⟩ := h.2.2.2.2 (by omega)
  refine ⟨b, o, e, fun j r hr => hc j r ?_⟩
  rw [List.getElem?_take] at hr
  split at hr
  · exact hr
  · cases hr

set_option maxHeartbeats 4000000 in
theorem appended_true {v : Value} {d : Ds} {A1 : Option Addr} {n1 c1 : Nat} {ls : List (List UInt8)} {A2 : Option Addr} {n2 c2 : Nat} {rec : List UInt8} {w : World} (h : Disk w v d) (hL : Lists w A1 n1 c1 ls) (hR : Bytes w A2 n2 c2 rec) (hr : jRecs d = ls ++ [rec]) (hn : n1 ≤ 65536) :
    Calls Try.prog 40 #[v, .slice A1 n1 c1, .slice A2 n2 c2] w fun e w' => e = .returned (.bool true) ∧ Grew w w' := by
  obtain ⟨A, n, c, A', n', c', rfl, _, _⟩ := h.form
  have HH := Lib.hid h
  have HL := Lib.hid hL
  have HR := Lib.hid hR
  have HRR := Lib.hid hr
  have HN := Lib.hid hL.1
  clear h hL hR hr
  go_enter Try.func40, Try.ntmps40
  go_wp2_with fail
  refine (recs_int (HH.out.grew ((Grew.refl w).alloc _)) HRR.out rfl).mono ?_
  rintro e w1 ⟨B, m, f, rfl, hB, g1⟩
  have gg : Grew w w1 := ((Grew.refl w).alloc _).trans g1
  obtain rfl : m = n1 + 1 := by rw [← hB.1, List.length_append, HN.out]; rfl
  have t1 : (((n1 + 1 : Nat) : Int) == (n1 : Int) + 1) = true := by simp
  have t2 : ((n1 : Int) + 1 == (n1 : Int) + 1) = true := by simp
  have HT := Lib.hid (hB.take (k := n1) (by omega))
  have hcf : n1 + 1 ≤ f := hB.2.1
  have hcm : f ≤ 9223372036854775807 := hB.2.2.1
  obtain ⟨b, o, r, Ar, nr, cr, rfl, hr, cc, hbr⟩ := lists_at hB (k := n1) (by omega)
  have hrr : r = rec := by
    rw [List.getElem?_append_right (by rw [HN.out]; omega), HN.out, Nat.sub_self] at hr
    simpa using hr.symm
  subst hrr
  have i0 : (0 : Int) ≤ (n1 : Int) := by omega
  have i1 : (n1 : Int) ≤ (f : Int) := by omega
  have i2 : (n1 : Int) < ((n1 + 1 : Nat) : Int) := by omega
  have HBR := Lib.hid hbr
  have ET : Hid ((ls ++ [r]).take n1 = ls) := by unfold Hid; rw [← HN.out, List.take_left]
  clear hB hr hbr
  go_wp2_with fail
  refine (sameAll_any _ _ _ _ _ _ _ ls _ HT.out (HL.out.grew gg)).mono ?_
  rw [ET.out, decide_eq_true (rfl : ls = ls)]
  rintro e w2 ⟨rfl, g2⟩
  have cc2 := g2.cell cc
  clear cc
  go_wp2_with fail
  refine (jsame_ok (HBR.out.grew g2) (HR.out.grew (gg.trans g2)) rfl).mono ?_
  rintro e w3 ⟨rfl, g3⟩
  clear cc2
  go_wp2_with fail
  go_ret
  exact ⟨rfl, (gg.trans g2).trans g3⟩
end Go.Proofs.Ytneipacdpojjkaa
