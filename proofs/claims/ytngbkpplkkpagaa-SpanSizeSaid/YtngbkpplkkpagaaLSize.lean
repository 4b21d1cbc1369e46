/-
  The law SpanSize, walked.
-/
import Derived.Test.YtngbkpplkkpagaaHead
namespace Go.Proofs.Ytngbkpplkkpagaa
open Go.RowKit Go.Proofs WageMem WageSpan
set_option maxRecDepth 100000 in
set_option maxHeartbeats 16000000 in
theorem size_skip (Aa : Option Addr) (na ca : Nat) (a : List Sp) (Ab : Option Addr) (nb cb : Nat) (b : List Sp) (w : World) (_ha : Spans w Aa na ca a) (_hb : Spans w Ab nb cb b) (hs : shortB [(Aa, na, ca), (Ab, nb, cb)] = false) :
    Calls Try.prog 7 #[.slice Aa na ca, .slice Ab nb cb] w fun e w' => e = .returned (.bool true) ∧ Grew w w' := by
  have gg : Grew w w := Grew.refl w
  have HSH := Lib.hid hs
  clear hs
  go_enter Try.func7, Try.ntmps7
  go_wp2_with fail
  refine (head_true _).mono ?_
  rintro e v1 ⟨rfl, g⟩
  replace gg := gg.trans g
  clear g
  go_wp2_with fail
  refine (short_val [(Aa, na, ca), (Ab, nb, cb)] rfl rfl (by simp) HSH.out).mono ?_
  rintro e v2 ⟨rfl, g⟩
  replace gg := gg.trans g
  clear g
  go_wp2_with fail
  go_ret
  exact ⟨rfl, gg⟩
set_option maxRecDepth 100000 in
set_option maxHeartbeats 16000000 in
theorem size_main (Aa : Option Addr) (na ca : Nat) (a : List Sp) (Ab : Option Addr) (nb cb : Nat) (b : List Sp) (w : World) (ha : Spans w Aa na ca a) (hb : Spans w Ab nb cb b) (ba : na ≤ 60) (bb : nb ≤ 60) :
    Calls Try.prog 7 #[.slice Aa na ca, .slice Ab nb cb] w fun e w' => e = .returned (.bool true) ∧ Grew w w' := by
  have gg : Grew w w := Grew.refl w
  have Ha := Lib.hid ha
  have La : Hid (a.length ≤ 60) := by unfold Hid; rw [ha.1]; exact ba
  have Hb := Lib.hid hb
  have Lb : Hid (b.length ≤ 60) := by unfold Hid; rw [hb.1]; exact bb
  have HSH : Hid (shortB [(Aa, na, ca), (Ab, nb, cb)] = true) := by unfold Hid shortB; simp [ba, bb]
  obtain ⟨s1, s2⟩ := size_laws a b
  obtain ⟨x, hx⟩ : ∃ x, sizeS (nrm a) = x := ⟨_, rfl⟩
  obtain ⟨y, hy⟩ : ∃ y, sizeS (nrm b) = y := ⟨_, rfl⟩
  obtain ⟨u, hu⟩ : ∃ u, sizeS (uni a b) = u := ⟨_, rfl⟩
  obtain ⟨m, hm⟩ : ∃ m, sizeS (meet a b) = m := ⟨_, rfl⟩
  obtain ⟨z, hz⟩ : ∃ z, sizeS (minus a b) = z := ⟨_, rfl⟩
  have bx := size_bd (nrm_normal a)
  have by' := size_bd (nrm_normal b)
  have bu := size_bd (uni_normal a b)
  have bm := size_bd (meet_normal a b)
  have bz := size_bd (minus_normal a b)
  have hx0 := size_zero (nrm_normal a)
  rw [hx] at bx hx0
  rw [hy] at by'
  rw [hu] at bu
  rw [hm] at bm
  rw [hz] at bz
  rw [hu, hm, hx, hy] at s1
  rw [hz, hm, hx] at s2
  obtain ⟨r1, hr1⟩ : ∃ l, nrm a = l := ⟨_, rfl⟩
  obtain ⟨r2, hr2⟩ : ∃ l, uni a b = l := ⟨_, rfl⟩
  obtain ⟨r3, hr3⟩ : ∃ l, meet a b = l := ⟨_, rfl⟩
  obtain ⟨r4, hr4⟩ : ∃ l, minus a b = l := ⟨_, rfl⟩
  have EX := Lib.hid hx
  have EY := Lib.hid hy
  have EU : Hid (sizeS (nrm r2) = u) := by unfold Hid; rw [← hr2, nrm_self (uni_normal a b)]; exact hu
  have EM : Hid (sizeS (nrm r3) = m) := by unfold Hid; rw [← hr3, nrm_self (meet_normal a b)]; exact hm
  have EZ : Hid (sizeS (nrm r4) = z) := by unfold Hid; rw [← hr4, nrm_self (minus_normal a b)]; exact hz
  have Lr1 : Hid (r1.length ≤ 2000) := by unfold Hid; rw [← hr1]; have := nf_len fstB a []; have h1 := La.out; show (nf fstB a []).length ≤ 2000; simp at this; omega
  have Lr2 : Hid (r2.length ≤ 2000) := by unfold Hid; rw [← hr2]; have := nf_len orB a b; have h1 := La.out; have h2 := Lb.out; show (nf orB a b).length ≤ 2000; omega
  have Lr3 : Hid (r3.length ≤ 2000) := by unfold Hid; rw [← hr3]; have := nf_len andB a b; have h1 := La.out; have h2 := Lb.out; show (nf andB a b).length ≤ 2000; omega
  have Lr4 : Hid (r4.length ≤ 2000) := by unfold Hid; rw [← hr4]; have := nf_len butB a b; have h1 := La.out; have h2 := Lb.out; show (nf butB a b).length ≤ 2000; omega
  have t1 : (u - x == y - m) = true := by rw [beq_iff_eq]; omega
  have t2 : (z == x - m) = true := by rw [beq_iff_eq]; omega
  have t3 : decide (0 ≤ x) = true := decide_eq_true bx.1
  have HNA := Lib.hid hr1
  have HUA := Lib.hid hr2
  have HMA := Lib.hid hr3
  have HIA := Lib.hid hr4
  have h0 : (x == 0) = (r1.length == 0) := by
    rw [← hr1, Bool.eq_iff_iff, beq_iff_eq, beq_iff_eq, hx0, List.length_eq_zero_iff]
  have H0 := Lib.hid h0
  clear s1 s2 hx hy hu hm hz hx0 hr1 hr2 hr3 hr4 h0 ha hb
  go_enter Try.func7, Try.ntmps7
  go_wp2_with fail
  refine (head_true _).mono ?_
  rintro e v1 ⟨rfl, g⟩
  replace Ha := Lib.hid (Ha.out.grew g)
  replace Hb := Lib.hid (Hb.out.grew g)
  replace gg := gg.trans g
  clear g
  go_wp2_with fail
  refine (short_val [(Aa, na, ca), (Ab, nb, cb)] rfl rfl (by simp) HSH.out).mono ?_
  rintro e v2 ⟨rfl, g⟩
  replace Ha := Lib.hid (Ha.out.grew g)
  replace Hb := Lib.hid (Hb.out.grew g)
  replace gg := gg.trans g
  clear g
  go_wp2_with fail
  refine (size_val Ha.out (by omega) EX.out).mono ?_
  rintro e v3 ⟨rfl, g⟩
  replace Ha := Lib.hid (Ha.out.grew g)
  replace Hb := Lib.hid (Hb.out.grew g)
  replace gg := gg.trans g
  clear g
  go_wp2_with fail
  refine (size_val Hb.out (by omega) EY.out).mono ?_
  rintro e v4 ⟨rfl, g⟩
  replace Ha := Lib.hid (Ha.out.grew g)
  replace Hb := Lib.hid (Hb.out.grew g)
  replace gg := gg.trans g
  clear g
  go_wp2_with fail
  refine (union_val Ha.out Hb.out (by omega) (by omega) HUA.out).mono ?_
  rintro e v5 ⟨Ar2, nr2, cr2, rfl, hh, g⟩
  have br2 : nr2 ≤ 2000 := by rw [← hh.1]; exact Lr2.out
  have Hr2 := Lib.hid hh
  clear hh
  replace Ha := Lib.hid (Ha.out.grew g)
  replace Hb := Lib.hid (Hb.out.grew g)
  replace gg := gg.trans g
  clear g
  go_wp2_with fail
  refine (size_val Hr2.out (by omega) EU.out).mono ?_
  rintro e v6 ⟨rfl, g⟩
  replace Ha := Lib.hid (Ha.out.grew g)
  replace Hb := Lib.hid (Hb.out.grew g)
  replace Hr2 := Lib.hid (Hr2.out.grew g)
  replace gg := gg.trans g
  clear g
  go_wp2_with fail
  refine (meet_val Ha.out Hb.out (by omega) (by omega) HMA.out).mono ?_
  rintro e v7 ⟨Ar3, nr3, cr3, rfl, hh, g⟩
  have br3 : nr3 ≤ 2000 := by rw [← hh.1]; exact Lr3.out
  have Hr3 := Lib.hid hh
  clear hh
  replace Ha := Lib.hid (Ha.out.grew g)
  replace Hb := Lib.hid (Hb.out.grew g)
  replace Hr2 := Lib.hid (Hr2.out.grew g)
  replace gg := gg.trans g
  clear g
  go_wp2_with fail
  refine (size_val Hr3.out (by omega) EM.out).mono ?_
  rintro e v8 ⟨rfl, g⟩
  replace Ha := Lib.hid (Ha.out.grew g)
  replace Hb := Lib.hid (Hb.out.grew g)
  replace Hr2 := Lib.hid (Hr2.out.grew g)
  replace Hr3 := Lib.hid (Hr3.out.grew g)
  replace gg := gg.trans g
  clear g
  go_wp2_with fail
  refine (minus_val Ha.out Hb.out (by omega) (by omega) HIA.out).mono ?_
  rintro e v9 ⟨Ar4, nr4, cr4, rfl, hh, g⟩
  have br4 : nr4 ≤ 2000 := by rw [← hh.1]; exact Lr4.out
  have Hr4 := Lib.hid hh
  clear hh
  replace Ha := Lib.hid (Ha.out.grew g)
  replace Hb := Lib.hid (Hb.out.grew g)
  replace Hr2 := Lib.hid (Hr2.out.grew g)
  replace Hr3 := Lib.hid (Hr3.out.grew g)
  replace gg := gg.trans g
  clear g
  go_wp2_with fail
  refine (size_val Hr4.out (by omega) EZ.out).mono ?_
  rintro e v10 ⟨rfl, g⟩
  replace Ha := Lib.hid (Ha.out.grew g)
  replace Hb := Lib.hid (Hb.out.grew g)
  replace Hr2 := Lib.hid (Hr2.out.grew g)
  replace Hr3 := Lib.hid (Hr3.out.grew g)
  replace Hr4 := Lib.hid (Hr4.out.grew g)
  replace gg := gg.trans g
  clear g
  go_wp2_with fail
  refine (normal_val Ha.out (by omega) HNA.out).mono ?_
  rintro e v11 ⟨Ar1, nr1, cr1, rfl, hh, g⟩
  have br1 : nr1 ≤ 2000 := by rw [← hh.1]; exact Lr1.out
  have Hr1 := Lib.hid hh
  clear hh
  replace Ha := Lib.hid (Ha.out.grew g)
  replace Hb := Lib.hid (Hb.out.grew g)
  replace Hr2 := Lib.hid (Hr2.out.grew g)
  replace Hr3 := Lib.hid (Hr3.out.grew g)
  replace Hr4 := Lib.hid (Hr4.out.grew g)
  replace gg := gg.trans g
  clear g
  have h0 : (x == 0) = ((nr1 : Int) == 0) := by rw [H0.out, Hr1.out.1, Bool.eq_iff_iff, beq_iff_eq, beq_iff_eq]; omega
  obtain ⟨e0, he0⟩ : ∃ e0, ((nr1 : Int) == 0) = e0 := ⟨_, rfl⟩
  rw [he0] at h0
  have t9 : (e0 == e0) = true := by simp
  go_wp2_with fail
  go_ret
  exact ⟨by simp, gg⟩
theorem size_law (Aa : Option Addr) (na ca : Nat) (a : List Sp) (Ab : Option Addr) (nb cb : Nat) (b : List Sp) (w : World) (ha : Spans w Aa na ca a) (hb : Spans w Ab nb cb b) :
    Calls Try.prog 7 #[.slice Aa na ca, .slice Ab nb cb] w fun e w' => e = .returned (.bool true) ∧ Grew w w' := by
  cases hs : shortB [(Aa, na, ca), (Ab, nb, cb)] with
  | false => exact size_skip Aa na ca a Ab nb cb b w ha hb hs
  | true =>
    unfold shortB at hs
    simp at hs
    exact size_main Aa na ca a Ab nb cb b w ha hb (by omega) (by omega)
end Go.Proofs.Ytngbkpplkkpagaa
