/-
  The law SpanMatchesReference, walked.
-/
import Derived.Test.YtngbkpplkkpagaaRfG
import Derived.Test.YtngbkpplkkpagaaRfH
import Derived.Test.YtngbkpplkkpagaaRfI
import Derived.Test.YtngbkpplkkpagaaRfA
namespace Go.Proofs.Ytngbkpplkkpagaa
open Go.RowKit Go.Proofs WageMem WageSpan
set_option maxRecDepth 100000 in
set_option maxHeartbeats 16000000 in
theorem mat_skip (Aa : Option Addr) (na ca : Nat) (a : List Sp) (Ab : Option Addr) (nb cb : Nat) (b : List Sp) (w : World) (_ha : Spans w Aa na ca a) (_hb : Spans w Ab nb cb b) (n : Int) (hs : shortB [(Aa, na, ca), (Ab, nb, cb)] = false) :
    Calls Try.prog 3 #[.slice Aa na ca, .slice Ab nb cb, .int .i64 n] w fun e w' => e = .returned (.bool true) ∧ Grew w w' := by
  have gg : Grew w w := Grew.refl w
  have HSH := Lib.hid hs
  clear hs
  go_enter Try.func3, Try.ntmps3
  go_wp2_with fail
  refine (head_true _).mono ?_
  rintro e v1 ⟨rfl, g⟩
  replace gg := gg.trans g
  clear g
  go_wp2_with fail
  refine (short_val [(Aa, na, ca), (Ab, nb, cb)] rfl rfl (by simp) HSH.out).mono ?_
  rintro e v2 ⟨rfl, g⟩
  replace gg := gg.trans g
  clear g
  go_wp2_with fail
  go_ret
  exact ⟨rfl, gg⟩
set_option maxRecDepth 100000 in
set_option maxHeartbeats 16000000 in
theorem mat_main (Aa : Option Addr) (na ca : Nat) (a : List Sp) (Ab : Option Addr) (nb cb : Nat) (b : List Sp) (w : World) (ha : Spans w Aa na ca a) (hb : Spans w Ab nb cb b) (n : Int) (ba : na ≤ 60) (bb : nb ≤ 60) :
    Calls Try.prog 3 #[.slice Aa na ca, .slice Ab nb cb, .int .i64 n] w fun e w' => e = .returned (.bool true) ∧ Grew w w' := by
  have gg : Grew w w := Grew.refl w
  have Ha := Lib.hid ha
  have La : Hid (a.length ≤ 60) := by unfold Hid; rw [ha.1]; exact ba
  have Hb := Lib.hid hb
  have Lb : Hid (b.length ≤ 60) := by unfold Hid; rw [hb.1]; exact bb
  have HSH : Hid (shortB [(Aa, na, ca), (Ab, nb, cb)] = true) := by unfold Hid shortB; simp [ba, bb]
  have Lr1 : Hid ((nrm a).length ≤ 240) := by have := nf_len fstB a []; have h1 := La.out; have h2 := Lb.out; show (nf fstB a []).length ≤ 240; simp at this; omega
  have Lr3 : Hid ((uni a b).length ≤ 240) := by have := nf_len orB a b; have h1 := La.out; have h2 := Lb.out; show (nf orB a b).length ≤ 240; omega
  have Lr5 : Hid ((meet a b).length ≤ 240) := by have := nf_len andB a b; have h1 := La.out; have h2 := Lb.out; show (nf andB a b).length ≤ 240; omega
  have Lr7 : Hid ((minus a b).length ≤ 240) := by have := nf_len butB a b; have h1 := La.out; have h2 := Lb.out; show (nf butB a b).length ≤ 240; omega
  have Lr2 := Lr1
  have Lr4 := Lr3
  have Lr6 := Lr5
  have Lr8 := Lr7
  obtain ⟨tv, hv⟩ : ∃ t, decide (nrm a = a) = t := ⟨_, rfl⟩
  obtain ⟨th, hh⟩ : ∃ t, hasB a n = t := ⟨_, rfl⟩
  obtain ⟨z, hz⟩ : ∃ z, sizeS (nrm a) = z := ⟨_, rfl⟩
  have HV := Lib.hid hv
  have HT := Lib.hid hh
  have HZ := Lib.hid hz
  have t1 : (tv == tv) = true := by simp
  have t2 : (th == th) = true := by simp
  have t3 : (z == z) = true := by simp
  have bz := size_bd (nrm_normal a)
  rw [hz] at bz
  clear ha hb hv hh hz
  go_enter Try.func3, Try.ntmps3
  go_wp2_with fail
  refine (head_true _).mono ?_
  rintro e v1 ⟨rfl, g⟩
  replace Ha := Lib.hid (Ha.out.grew g)
  replace Hb := Lib.hid (Hb.out.grew g)
  replace gg := gg.trans g
  clear g
  go_wp2_with fail
  refine (short_val [(Aa, na, ca), (Ab, nb, cb)] rfl rfl (by simp) HSH.out).mono ?_
  rintro e v2 ⟨rfl, g⟩
  replace Ha := Lib.hid (Ha.out.grew g)
  replace Hb := Lib.hid (Hb.out.grew g)
  replace gg := gg.trans g
  clear g
  go_wp2_with fail
  refine (valid_val Ha.out (by omega) HV.out).mono ?_
  rintro e v3 ⟨rfl, g⟩
  replace Ha := Lib.hid (Ha.out.grew g)
  replace Hb := Lib.hid (Hb.out.grew g)
  replace gg := gg.trans g
  clear g
  go_wp2_with fail
  refine (rvalid_val Ha.out HV.out).mono ?_
  rintro e v4 ⟨rfl, g⟩
  replace Ha := Lib.hid (Ha.out.grew g)
  replace Hb := Lib.hid (Hb.out.grew g)
  replace gg := gg.trans g
  clear g
  go_wp2_with fail
  refine (normal_val Ha.out (by omega) rfl).mono ?_
  rintro e v5 ⟨Ar1, nr1, cr1, rfl, hh, g⟩
  have br1 : nr1 ≤ 240 := by rw [← hh.1]; exact Lr1.out
  have Hr1 := Lib.hid hh
  clear hh
  replace Ha := Lib.hid (Ha.out.grew g)
  replace Hb := Lib.hid (Hb.out.grew g)
  replace gg := gg.trans g
  clear g
  go_wp2_with fail
  refine (rnormal_val Ha.out (by omega) (rnorm_eq a)).mono ?_
  rintro e v6 ⟨Ar2, nr2, cr2, rfl, hh, g⟩
  have br2 : nr2 ≤ 240 := by rw [← hh.1]; exact Lr2.out
  have Hr2 := Lib.hid hh
  clear hh
  replace Ha := Lib.hid (Ha.out.grew g)
  replace Hb := Lib.hid (Hb.out.grew g)
  replace Hr1 := Lib.hid (Hr1.out.grew g)
  replace gg := gg.trans g
  clear g
  go_wp2_with fail
  refine (same_val Hr1.out Hr2.out (decide_eq_true rfl)).mono ?_
  rintro e v7 ⟨rfl, g⟩
  replace Ha := Lib.hid (Ha.out.grew g)
  replace Hb := Lib.hid (Hb.out.grew g)
  replace Hr1 := Lib.hid (Hr1.out.grew g)
  replace Hr2 := Lib.hid (Hr2.out.grew g)
  replace gg := gg.trans g
  clear g
  clear Hr1 Hr2
  go_wp2_with fail
  refine (union_val Ha.out Hb.out (by omega) (by omega) rfl).mono ?_
  rintro e v8 ⟨Ar3, nr3, cr3, rfl, hh, g⟩
  have br3 : nr3 ≤ 240 := by rw [← hh.1]; exact Lr3.out
  have Hr3 := Lib.hid hh
  clear hh
  replace Ha := Lib.hid (Ha.out.grew g)
  replace Hb := Lib.hid (Hb.out.grew g)
  replace gg := gg.trans g
  clear g
  go_wp2_with fail
  refine (runion_any _ _ _ _ _ _ _ _ _ Ha.out Hb.out (by omega) (by omega)).mono ?_
  rintro e v9 ⟨Ar4, nr4, cr4, rfl, hh, g⟩
  have br4 : nr4 ≤ 240 := by rw [← hh.1]; exact Lr4.out
  have Hr4 := Lib.hid hh
  clear hh
  replace Ha := Lib.hid (Ha.out.grew g)
  replace Hb := Lib.hid (Hb.out.grew g)
  replace Hr3 := Lib.hid (Hr3.out.grew g)
  replace gg := gg.trans g
  clear g
  go_wp2_with fail
  refine (same_val Hr3.out Hr4.out (decide_eq_true rfl)).mono ?_
  rintro e v10 ⟨rfl, g⟩
  replace Ha := Lib.hid (Ha.out.grew g)
  replace Hb := Lib.hid (Hb.out.grew g)
  replace Hr3 := Lib.hid (Hr3.out.grew g)
  replace Hr4 := Lib.hid (Hr4.out.grew g)
  replace gg := gg.trans g
  clear g
  clear Hr3 Hr4
  go_wp2_with fail
  refine (meet_val Ha.out Hb.out (by omega) (by omega) rfl).mono ?_
  rintro e v11 ⟨Ar5, nr5, cr5, rfl, hh, g⟩
  have br5 : nr5 ≤ 240 := by rw [← hh.1]; exact Lr5.out
  have Hr5 := Lib.hid hh
  clear hh
  replace Ha := Lib.hid (Ha.out.grew g)
  replace Hb := Lib.hid (Hb.out.grew g)
  replace gg := gg.trans g
  clear g
  go_wp2_with fail
  refine (rmeet_val Ha.out Hb.out (by omega) (by omega) (rmeet_eq a b)).mono ?_
  rintro e v12 ⟨Ar6, nr6, cr6, rfl, hh, g⟩
  have br6 : nr6 ≤ 240 := by rw [← hh.1]; exact Lr6.out
  have Hr6 := Lib.hid hh
  clear hh
  replace Ha := Lib.hid (Ha.out.grew g)
  replace Hb := Lib.hid (Hb.out.grew g)
  replace Hr5 := Lib.hid (Hr5.out.grew g)
  replace gg := gg.trans g
  clear g
  go_wp2_with fail
  refine (same_val Hr5.out Hr6.out (decide_eq_true rfl)).mono ?_
  rintro e v13 ⟨rfl, g⟩
  replace Ha := Lib.hid (Ha.out.grew g)
  replace Hb := Lib.hid (Hb.out.grew g)
  replace Hr5 := Lib.hid (Hr5.out.grew g)
  replace Hr6 := Lib.hid (Hr6.out.grew g)
  replace gg := gg.trans g
  clear g
  clear Hr5 Hr6
  go_wp2_with fail
  refine (minus_val Ha.out Hb.out (by omega) (by omega) rfl).mono ?_
  rintro e v14 ⟨Ar7, nr7, cr7, rfl, hh, g⟩
  have br7 : nr7 ≤ 240 := by rw [← hh.1]; exact Lr7.out
  have Hr7 := Lib.hid hh
  clear hh
  replace Ha := Lib.hid (Ha.out.grew g)
  replace Hb := Lib.hid (Hb.out.grew g)
  replace gg := gg.trans g
  clear g
  go_wp2_with fail
  refine (rminus_any _ _ _ _ _ _ _ _ _ Ha.out Hb.out (by omega) (by omega)).mono ?_
  rintro e v15 ⟨Ar8, nr8, cr8, rfl, hh, g⟩
  have br8 : nr8 ≤ 240 := by rw [← hh.1]; exact Lr8.out
  have Hr8 := Lib.hid hh
  clear hh
  replace Ha := Lib.hid (Ha.out.grew g)
  replace Hb := Lib.hid (Hb.out.grew g)
  replace Hr7 := Lib.hid (Hr7.out.grew g)
  replace gg := gg.trans g
  clear g
  go_wp2_with fail
  refine (same_val Hr7.out Hr8.out (decide_eq_true rfl)).mono ?_
  rintro e v16 ⟨rfl, g⟩
  replace Ha := Lib.hid (Ha.out.grew g)
  replace Hb := Lib.hid (Hb.out.grew g)
  replace Hr7 := Lib.hid (Hr7.out.grew g)
  replace Hr8 := Lib.hid (Hr8.out.grew g)
  replace gg := gg.trans g
  clear g
  clear Hr7 Hr8
  go_wp2_with fail
  refine (has_val Ha.out HT.out).mono ?_
  rintro e v17 ⟨rfl, g⟩
  replace Ha := Lib.hid (Ha.out.grew g)
  replace Hb := Lib.hid (Hb.out.grew g)
  replace gg := gg.trans g
  clear g
  go_wp2_with fail
  refine (rhas_val Ha.out HT.out).mono ?_
  rintro e v18 ⟨rfl, g⟩
  replace Ha := Lib.hid (Ha.out.grew g)
  replace Hb := Lib.hid (Hb.out.grew g)
  replace gg := gg.trans g
  clear g
  go_wp2_with fail
  refine (size_val Ha.out (by omega) HZ.out).mono ?_
  rintro e v19 ⟨rfl, g⟩
  replace Ha := Lib.hid (Ha.out.grew g)
  replace Hb := Lib.hid (Hb.out.grew g)
  replace gg := gg.trans g
  clear g
  go_wp2_with fail
  refine (rsize_val Ha.out (by omega) HZ.out).mono ?_
  rintro e v20 ⟨rfl, g⟩
  replace Ha := Lib.hid (Ha.out.grew g)
  replace Hb := Lib.hid (Hb.out.grew g)
  replace gg := gg.trans g
  clear g
  go_wp2_with fail
  go_ret
  exact ⟨by simp, gg⟩
theorem mat_law (Aa : Option Addr) (na ca : Nat) (a : List Sp) (Ab : Option Addr) (nb cb : Nat) (b : List Sp) (w : World) (ha : Spans w Aa na ca a) (hb : Spans w Ab nb cb b) (n : Int) :
    Calls Try.prog 3 #[.slice Aa na ca, .slice Ab nb cb, .int .i64 n] w fun e w' => e = .returned (.bool true) ∧ Grew w w' := by
  cases hs : shortB [(Aa, na, ca), (Ab, nb, cb)] with
  | false => exact mat_skip Aa na ca a Ab nb cb b w ha hb n hs
  | true =>
    unfold shortB at hs
    simp at hs
    exact mat_main Aa na ca a Ab nb cb b w ha hb n (by omega) (by omega)
end Go.Proofs.Ytngbkpplkkpagaa
