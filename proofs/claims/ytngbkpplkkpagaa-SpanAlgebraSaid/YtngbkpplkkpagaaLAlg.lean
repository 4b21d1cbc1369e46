/-
  The law SpanAlgebra, walked.
-/
import Derived.Test.YtngbkpplkkpagaaHead
namespace Go.Proofs.Ytngbkpplkkpagaa
open Go.RowKit Go.Proofs WageMem WageSpan

theorem nf_le {bf : Bool → Bool → Bool} {a b : List Sp} {p q r : Nat} (ha : a.length ≤ p) (hb : b.length ≤ q) (hr : 2 * p + 2 * q ≤ r) : (nf bf a b).length ≤ r := by
  have := nf_len bf a b; omega
theorem alg1 (a b c : List Sp) : (uni a b) = (uni b a) := (uni_normal _ _).ext (uni_normal _ _) fun n => by
  simp only [uni_has]
  cases hasB a n <;> cases hasB b n <;> cases hasB c n <;> rfl
theorem alg2 (a b c : List Sp) : (meet a b) = (meet b a) := (meet_normal _ _).ext (meet_normal _ _) fun n => by
  simp only [meet_has]
  cases hasB a n <;> cases hasB b n <;> cases hasB c n <;> rfl
theorem alg3 (a b c : List Sp) : (uni a a) = (meet a a) := (uni_normal _ _).ext (meet_normal _ _) fun n => by
  simp only [uni_has, meet_has]
  cases hasB a n <;> cases hasB b n <;> cases hasB c n <;> rfl
theorem alg4 (a b c : List Sp) : (uni a []) = (nrm a) := (uni_normal _ _).ext (nrm_normal _) fun n => by
  simp only [uni_has, nrm_has, has_nil]
  cases hasB a n <;> cases hasB b n <;> cases hasB c n <;> rfl
theorem alg5 (a b c : List Sp) : (uni (uni a b) c) = (uni a (uni b c)) := (uni_normal _ _).ext (uni_normal _ _) fun n => by
  simp only [uni_has]
  cases hasB a n <;> cases hasB b n <;> cases hasB c n <;> rfl
theorem alg6 (a b c : List Sp) : (meet (meet a b) c) = (meet a (meet b c)) := (meet_normal _ _).ext (meet_normal _ _) fun n => by
  simp only [meet_has]
  cases hasB a n <;> cases hasB b n <;> cases hasB c n <;> rfl
theorem alg7 (a b c : List Sp) : (meet a (uni b c)) = (uni (meet a b) (meet a c)) := (meet_normal _ _).ext (uni_normal _ _) fun n => by
  simp only [uni_has, meet_has]
  cases hasB a n <;> cases hasB b n <;> cases hasB c n <;> rfl
theorem alg8 (a b c : List Sp) : (uni a (meet b c)) = (meet (uni a b) (uni a c)) := (uni_normal _ _).ext (meet_normal _ _) fun n => by
  simp only [uni_has, meet_has]
  cases hasB a n <;> cases hasB b n <;> cases hasB c n <;> rfl
theorem alg9 (a b c : List Sp) : (minus a (minus a b)) = (meet a b) := (minus_normal _ _).ext (meet_normal _ _) fun n => by
  simp only [meet_has, minus_has]
  cases hasB a n <;> cases hasB b n <;> cases hasB c n <;> rfl
theorem alg10 (a b c : List Sp) : (minus a (uni b c)) = (meet (minus a b) (minus a c)) := (minus_normal _ _).ext (meet_normal _ _) fun n => by
  simp only [uni_has, meet_has, minus_has]
  cases hasB a n <;> cases hasB b n <;> cases hasB c n <;> rfl
theorem alg11 (a b c : List Sp) : (minus a (meet b c)) = (uni (minus a b) (minus a c)) := (minus_normal _ _).ext (uni_normal _ _) fun n => by
  simp only [uni_has, meet_has, minus_has]
  cases hasB a n <;> cases hasB b n <;> cases hasB c n <;> rfl
set_option maxRecDepth 100000 in
set_option maxHeartbeats 16000000 in
theorem alg_skip (Aa : Option Addr) (na ca : Nat) (a : List Sp) (Ab : Option Addr) (nb cb : Nat) (b : List Sp) (Ac : Option Addr) (nc cc : Nat) (c : List Sp) (w : World) (_ha : Spans w Aa na ca a) (_hb : Spans w Ab nb cb b) (_hc : Spans w Ac nc cc c) (hs : shortB [(Aa, na, ca), (Ab, nb, cb), (Ac, nc, cc)] = false) :
    Calls Try.prog 6 #[.slice Aa na ca, .slice Ab nb cb, .slice Ac nc cc] w fun e w' => e = .returned (.bool true) ∧ Grew w w' := by
  have gg : Grew w w := Grew.refl w
  have HSH := Lib.hid hs
  clear hs
  go_enter Try.func6, Try.ntmps6
  go_wp2_with fail
  refine (head_true _).mono ?_
  rintro e v1 ⟨rfl, g⟩
  replace gg := gg.trans g
  clear g
  go_wp2_with fail
  refine (short_val [(Aa, na, ca), (Ab, nb, cb), (Ac, nc, cc)] rfl rfl (by simp) HSH.out).mono ?_
  rintro e v2 ⟨rfl, g⟩
  replace gg := gg.trans g
  clear g
  go_wp2_with fail
  go_ret
  exact ⟨rfl, gg⟩
set_option maxRecDepth 100000 in
set_option maxHeartbeats 16000000 in
theorem alg_main (Aa : Option Addr) (na ca : Nat) (a : List Sp) (Ab : Option Addr) (nb cb : Nat) (b : List Sp) (Ac : Option Addr) (nc cc : Nat) (c : List Sp) (w : World) (ha : Spans w Aa na ca a) (hb : Spans w Ab nb cb b) (hc : Spans w Ac nc cc c) (ba : na ≤ 60) (bb : nb ≤ 60) (bc : nc ≤ 60) :
    Calls Try.prog 6 #[.slice Aa na ca, .slice Ab nb cb, .slice Ac nc cc] w fun e w' => e = .returned (.bool true) ∧ Grew w w' := by
  have gg : Grew w w := Grew.refl w
  have Ha := Lib.hid ha
  have La : Hid (a.length ≤ 60) := by unfold Hid; rw [ha.1]; exact ba
  have Hb := Lib.hid hb
  have Lb : Hid (b.length ≤ 60) := by unfold Hid; rw [hb.1]; exact bb
  have Hc := Lib.hid hc
  have Lc : Hid (c.length ≤ 60) := by unfold Hid; rw [hc.1]; exact bc
  have HSH : Hid (shortB [(Aa, na, ca), (Ab, nb, cb), (Ac, nc, cc)] = true) := by unfold Hid shortB; simp [ba, bb, bc]
  clear ha hb hc
  go_enter Try.func6, Try.ntmps6
  go_wp2_with fail
  refine (head_true _).mono ?_
  rintro e v1 ⟨rfl, g⟩
  replace Ha := Lib.hid (Ha.out.grew g)
  replace Hb := Lib.hid (Hb.out.grew g)
  replace Hc := Lib.hid (Hc.out.grew g)
  replace gg := gg.trans g
  clear g
  go_wp2_with fail
  refine (short_val [(Aa, na, ca), (Ab, nb, cb), (Ac, nc, cc)] rfl rfl (by simp) HSH.out).mono ?_
  rintro e v2 ⟨rfl, g⟩
  replace Ha := Lib.hid (Ha.out.grew g)
  replace Hb := Lib.hid (Hb.out.grew g)
  replace Hc := Lib.hid (Hc.out.grew g)
  replace gg := gg.trans g
  clear g
  go_wp2_with fail
  refine (union_val Ha.out Hb.out (by omega) (by omega) rfl).mono ?_
  rintro e v3 ⟨Ar1, nr1, cr1, rfl, hh, g⟩
  have Lr1 : Hid ((uni a b).length ≤ 240) := nf_le (bf := orB) (q := 60) La.out Lb.out (by decide)
  have br1 : nr1 ≤ 240 := by rw [← hh.1]; exact Lr1.out
  have Hr1 := Lib.hid hh
  clear hh
  replace Ha := Lib.hid (Ha.out.grew g)
  replace Hb := Lib.hid (Hb.out.grew g)
  replace Hc := Lib.hid (Hc.out.grew g)
  replace gg := gg.trans g
  clear g
  go_wp2_with fail
  refine (union_val Hb.out Ha.out (by omega) (by omega) rfl).mono ?_
  rintro e v4 ⟨Ar2, nr2, cr2, rfl, hh, g⟩
  have Lr2 : Hid ((uni b a).length ≤ 240) := nf_le (bf := orB) (q := 60) Lb.out La.out (by decide)
  have br2 : nr2 ≤ 240 := by rw [← hh.1]; exact Lr2.out
  have Hr2 := Lib.hid hh
  clear hh
  replace Ha := Lib.hid (Ha.out.grew g)
  replace Hb := Lib.hid (Hb.out.grew g)
  replace Hc := Lib.hid (Hc.out.grew g)
  replace Hr1 := Lib.hid (Hr1.out.grew g)
  replace gg := gg.trans g
  clear g
  go_wp2_with fail
  refine (same_val Hr1.out Hr2.out (decide_eq_true (alg1 a b c))).mono ?_
  rintro e v5 ⟨rfl, g⟩
  replace Ha := Lib.hid (Ha.out.grew g)
  replace Hb := Lib.hid (Hb.out.grew g)
  replace Hc := Lib.hid (Hc.out.grew g)
  replace Hr1 := Lib.hid (Hr1.out.grew g)
  replace Hr2 := Lib.hid (Hr2.out.grew g)
  replace gg := gg.trans g
  clear g
  clear Hr2
  clear Hr1
  go_wp2_with fail
  refine (meet_val Ha.out Hb.out (by omega) (by omega) rfl).mono ?_
  rintro e v6 ⟨Ar3, nr3, cr3, rfl, hh, g⟩
  have Lr3 : Hid ((meet a b).length ≤ 240) := nf_le (bf := andB) (q := 60) La.out Lb.out (by decide)
  have br3 : nr3 ≤ 240 := by rw [← hh.1]; exact Lr3.out
  have Hr3 := Lib.hid hh
  clear hh
  replace Ha := Lib.hid (Ha.out.grew g)
  replace Hb := Lib.hid (Hb.out.grew g)
  replace Hc := Lib.hid (Hc.out.grew g)
  replace gg := gg.trans g
  clear g
  go_wp2_with fail
  refine (meet_val Hb.out Ha.out (by omega) (by omega) rfl).mono ?_
  rintro e v7 ⟨Ar4, nr4, cr4, rfl, hh, g⟩
  have Lr4 : Hid ((meet b a).length ≤ 240) := nf_le (bf := andB) (q := 60) Lb.out La.out (by decide)
  have br4 : nr4 ≤ 240 := by rw [← hh.1]; exact Lr4.out
  have Hr4 := Lib.hid hh
  clear hh
  replace Ha := Lib.hid (Ha.out.grew g)
  replace Hb := Lib.hid (Hb.out.grew g)
  replace Hc := Lib.hid (Hc.out.grew g)
  replace Hr3 := Lib.hid (Hr3.out.grew g)
  replace gg := gg.trans g
  clear g
  go_wp2_with fail
  refine (same_val Hr3.out Hr4.out (decide_eq_true (alg2 a b c))).mono ?_
  rintro e v8 ⟨rfl, g⟩
  replace Ha := Lib.hid (Ha.out.grew g)
  replace Hb := Lib.hid (Hb.out.grew g)
  replace Hc := Lib.hid (Hc.out.grew g)
  replace Hr3 := Lib.hid (Hr3.out.grew g)
  replace Hr4 := Lib.hid (Hr4.out.grew g)
  replace gg := gg.trans g
  clear g
  clear Hr4
  clear Hr3
  go_wp2_with fail
  refine (union_val Ha.out Ha.out (by omega) (by omega) rfl).mono ?_
  rintro e v9 ⟨Ar5, nr5, cr5, rfl, hh, g⟩
  have Lr5 : Hid ((uni a a).length ≤ 240) := nf_le (bf := orB) (q := 60) La.out La.out (by decide)
  have br5 : nr5 ≤ 240 := by rw [← hh.1]; exact Lr5.out
  have Hr5 := Lib.hid hh
  clear hh
  replace Ha := Lib.hid (Ha.out.grew g)
  replace Hb := Lib.hid (Hb.out.grew g)
  replace Hc := Lib.hid (Hc.out.grew g)
  replace gg := gg.trans g
  clear g
  go_wp2_with fail
  refine (meet_val Ha.out Ha.out (by omega) (by omega) rfl).mono ?_
  rintro e v10 ⟨Ar6, nr6, cr6, rfl, hh, g⟩
  have Lr6 : Hid ((meet a a).length ≤ 240) := nf_le (bf := andB) (q := 60) La.out La.out (by decide)
  have br6 : nr6 ≤ 240 := by rw [← hh.1]; exact Lr6.out
  have Hr6 := Lib.hid hh
  clear hh
  replace Ha := Lib.hid (Ha.out.grew g)
  replace Hb := Lib.hid (Hb.out.grew g)
  replace Hc := Lib.hid (Hc.out.grew g)
  replace Hr5 := Lib.hid (Hr5.out.grew g)
  replace gg := gg.trans g
  clear g
  go_wp2_with fail
  refine (same_val Hr5.out Hr6.out (decide_eq_true (alg3 a b c))).mono ?_
  rintro e v11 ⟨rfl, g⟩
  replace Ha := Lib.hid (Ha.out.grew g)
  replace Hb := Lib.hid (Hb.out.grew g)
  replace Hc := Lib.hid (Hc.out.grew g)
  replace Hr5 := Lib.hid (Hr5.out.grew g)
  replace Hr6 := Lib.hid (Hr6.out.grew g)
  replace gg := gg.trans g
  clear g
  clear Hr5
  clear Hr6
  go_wp2_with fail
  refine (union_val Ha.out Spans.none_ (by omega) (by omega) rfl).mono ?_
  rintro e v12 ⟨Ar7, nr7, cr7, rfl, hh, g⟩
  have Lr7 : Hid ((uni a []).length ≤ 120) := nf_le (bf := orB) (q := 0) La.out (Nat.le_refl 0) (by decide)
  have br7 : nr7 ≤ 120 := by rw [← hh.1]; exact Lr7.out
  have Hr7 := Lib.hid hh
  clear hh
  replace Ha := Lib.hid (Ha.out.grew g)
  replace Hb := Lib.hid (Hb.out.grew g)
  replace Hc := Lib.hid (Hc.out.grew g)
  replace gg := gg.trans g
  clear g
  go_wp2_with fail
  refine (normal_val Ha.out (by omega) rfl).mono ?_
  rintro e v13 ⟨Ar8, nr8, cr8, rfl, hh, g⟩
  have Lr8 : Hid ((nrm a).length ≤ 120) := nf_le (bf := fstB) (q := 0) La.out (Nat.le_refl 0) (by decide)
  have br8 : nr8 ≤ 120 := by rw [← hh.1]; exact Lr8.out
  have Hr8 := Lib.hid hh
  clear hh
  replace Ha := Lib.hid (Ha.out.grew g)
  replace Hb := Lib.hid (Hb.out.grew g)
  replace Hc := Lib.hid (Hc.out.grew g)
  replace Hr7 := Lib.hid (Hr7.out.grew g)
  replace gg := gg.trans g
  clear g
  go_wp2_with fail
  refine (same_val Hr7.out Hr8.out (decide_eq_true (alg4 a b c))).mono ?_
  rintro e v14 ⟨rfl, g⟩
  replace Ha := Lib.hid (Ha.out.grew g)
  replace Hb := Lib.hid (Hb.out.grew g)
  replace Hc := Lib.hid (Hc.out.grew g)
  replace Hr7 := Lib.hid (Hr7.out.grew g)
  replace Hr8 := Lib.hid (Hr8.out.grew g)
  replace gg := gg.trans g
  clear g
  clear Hr7
  clear Hr8
  go_wp2_with fail
  refine (union_val Ha.out Hb.out (by omega) (by omega) rfl).mono ?_
  rintro e v15 ⟨Ar9, nr9, cr9, rfl, hh, g⟩
  have Lr9 : Hid ((uni a b).length ≤ 240) := nf_le (bf := orB) (q := 60) La.out Lb.out (by decide)
  have br9 : nr9 ≤ 240 := by rw [← hh.1]; exact Lr9.out
  have Hr9 := Lib.hid hh
  clear hh
  replace Ha := Lib.hid (Ha.out.grew g)
  replace Hb := Lib.hid (Hb.out.grew g)
  replace Hc := Lib.hid (Hc.out.grew g)
  replace gg := gg.trans g
  clear g
  go_wp2_with fail
  refine (union_val Hr9.out Hc.out (by omega) (by omega) rfl).mono ?_
  rintro e v16 ⟨Ar10, nr10, cr10, rfl, hh, g⟩
  have Lr10 : Hid ((uni (uni a b) c).length ≤ 600) := nf_le (bf := orB) (q := 60) Lr9.out Lc.out (by decide)
  have br10 : nr10 ≤ 600 := by rw [← hh.1]; exact Lr10.out
  have Hr10 := Lib.hid hh
  clear hh
  replace Ha := Lib.hid (Ha.out.grew g)
  replace Hb := Lib.hid (Hb.out.grew g)
  replace Hc := Lib.hid (Hc.out.grew g)
  replace Hr9 := Lib.hid (Hr9.out.grew g)
  replace gg := gg.trans g
  clear g
  go_wp2_with fail
  refine (union_val Hb.out Hc.out (by omega) (by omega) rfl).mono ?_
  rintro e v17 ⟨Ar11, nr11, cr11, rfl, hh, g⟩
  have Lr11 : Hid ((uni b c).length ≤ 240) := nf_le (bf := orB) (q := 60) Lb.out Lc.out (by decide)
  have br11 : nr11 ≤ 240 := by rw [← hh.1]; exact Lr11.out
  have Hr11 := Lib.hid hh
  clear hh
  replace Ha := Lib.hid (Ha.out.grew g)
  replace Hb := Lib.hid (Hb.out.grew g)
  replace Hc := Lib.hid (Hc.out.grew g)
  replace Hr9 := Lib.hid (Hr9.out.grew g)
  replace Hr10 := Lib.hid (Hr10.out.grew g)
  replace gg := gg.trans g
  clear g
  go_wp2_with fail
  refine (union_val Ha.out Hr11.out (by omega) (by omega) rfl).mono ?_
  rintro e v18 ⟨Ar12, nr12, cr12, rfl, hh, g⟩
  have Lr12 : Hid ((uni a (uni b c)).length ≤ 600) := nf_le (bf := orB) (q := 240) La.out Lr11.out (by decide)
  have br12 : nr12 ≤ 600 := by rw [← hh.1]; exact Lr12.out
  have Hr12 := Lib.hid hh
  clear hh
  replace Ha := Lib.hid (Ha.out.grew g)
  replace Hb := Lib.hid (Hb.out.grew g)
  replace Hc := Lib.hid (Hc.out.grew g)
  replace Hr9 := Lib.hid (Hr9.out.grew g)
  replace Hr10 := Lib.hid (Hr10.out.grew g)
  replace Hr11 := Lib.hid (Hr11.out.grew g)
  replace gg := gg.trans g
  clear g
  go_wp2_with fail
  refine (same_val Hr10.out Hr12.out (decide_eq_true (alg5 a b c))).mono ?_
  rintro e v19 ⟨rfl, g⟩
  replace Ha := Lib.hid (Ha.out.grew g)
  replace Hb := Lib.hid (Hb.out.grew g)
  replace Hc := Lib.hid (Hc.out.grew g)
  replace Hr9 := Lib.hid (Hr9.out.grew g)
  replace Hr10 := Lib.hid (Hr10.out.grew g)
  replace Hr11 := Lib.hid (Hr11.out.grew g)
  replace Hr12 := Lib.hid (Hr12.out.grew g)
  replace gg := gg.trans g
  clear g
  clear Hr12
  clear Hr11
  clear Hr9
  clear Hr10
  go_wp2_with fail
  refine (meet_val Ha.out Hb.out (by omega) (by omega) rfl).mono ?_
  rintro e v20 ⟨Ar13, nr13, cr13, rfl, hh, g⟩
  have Lr13 : Hid ((meet a b).length ≤ 240) := nf_le (bf := andB) (q := 60) La.out Lb.out (by decide)
  have br13 : nr13 ≤ 240 := by rw [← hh.1]; exact Lr13.out
  have Hr13 := Lib.hid hh
  clear hh
  replace Ha := Lib.hid (Ha.out.grew g)
  replace Hb := Lib.hid (Hb.out.grew g)
  replace Hc := Lib.hid (Hc.out.grew g)
  replace gg := gg.trans g
  clear g
  go_wp2_with fail
  refine (meet_val Hr13.out Hc.out (by omega) (by omega) rfl).mono ?_
  rintro e v21 ⟨Ar14, nr14, cr14, rfl, hh, g⟩
  have Lr14 : Hid ((meet (meet a b) c).length ≤ 600) := nf_le (bf := andB) (q := 60) Lr13.out Lc.out (by decide)
  have br14 : nr14 ≤ 600 := by rw [← hh.1]; exact Lr14.out
  have Hr14 := Lib.hid hh
  clear hh
  replace Ha := Lib.hid (Ha.out.grew g)
  replace Hb := Lib.hid (Hb.out.grew g)
  replace Hc := Lib.hid (Hc.out.grew g)
  replace Hr13 := Lib.hid (Hr13.out.grew g)
  replace gg := gg.trans g
  clear g
  go_wp2_with fail
  refine (meet_val Hb.out Hc.out (by omega) (by omega) rfl).mono ?_
  rintro e v22 ⟨Ar15, nr15, cr15, rfl, hh, g⟩
  have Lr15 : Hid ((meet b c).length ≤ 240) := nf_le (bf := andB) (q := 60) Lb.out Lc.out (by decide)
  have br15 : nr15 ≤ 240 := by rw [← hh.1]; exact Lr15.out
  have Hr15 := Lib.hid hh
  clear hh
  replace Ha := Lib.hid (Ha.out.grew g)
  replace Hb := Lib.hid (Hb.out.grew g)
  replace Hc := Lib.hid (Hc.out.grew g)
  replace Hr13 := Lib.hid (Hr13.out.grew g)
  replace Hr14 := Lib.hid (Hr14.out.grew g)
  replace gg := gg.trans g
  clear g
  go_wp2_with fail
  refine (meet_val Ha.out Hr15.out (by omega) (by omega) rfl).mono ?_
  rintro e v23 ⟨Ar16, nr16, cr16, rfl, hh, g⟩
  have Lr16 : Hid ((meet a (meet b c)).length ≤ 600) := nf_le (bf := andB) (q := 240) La.out Lr15.out (by decide)
  have br16 : nr16 ≤ 600 := by rw [← hh.1]; exact Lr16.out
  have Hr16 := Lib.hid hh
  clear hh
  replace Ha := Lib.hid (Ha.out.grew g)
  replace Hb := Lib.hid (Hb.out.grew g)
  replace Hc := Lib.hid (Hc.out.grew g)
  replace Hr13 := Lib.hid (Hr13.out.grew g)
  replace Hr14 := Lib.hid (Hr14.out.grew g)
  replace Hr15 := Lib.hid (Hr15.out.grew g)
  replace gg := gg.trans g
  clear g
  go_wp2_with fail
  refine (same_val Hr14.out Hr16.out (decide_eq_true (alg6 a b c))).mono ?_
  rintro e v24 ⟨rfl, g⟩
  replace Ha := Lib.hid (Ha.out.grew g)
  replace Hb := Lib.hid (Hb.out.grew g)
  replace Hc := Lib.hid (Hc.out.grew g)
  replace Hr13 := Lib.hid (Hr13.out.grew g)
  replace Hr14 := Lib.hid (Hr14.out.grew g)
  replace Hr15 := Lib.hid (Hr15.out.grew g)
  replace Hr16 := Lib.hid (Hr16.out.grew g)
  replace gg := gg.trans g
  clear g
  clear Hr15
  clear Hr16
  clear Hr14
  clear Hr13
  go_wp2_with fail
  refine (union_val Hb.out Hc.out (by omega) (by omega) rfl).mono ?_
  rintro e v25 ⟨Ar17, nr17, cr17, rfl, hh, g⟩
  have Lr17 : Hid ((uni b c).length ≤ 240) := nf_le (bf := orB) (q := 60) Lb.out Lc.out (by decide)
  have br17 : nr17 ≤ 240 := by rw [← hh.1]; exact Lr17.out
  have Hr17 := Lib.hid hh
  clear hh
  replace Ha := Lib.hid (Ha.out.grew g)
  replace Hb := Lib.hid (Hb.out.grew g)
  replace Hc := Lib.hid (Hc.out.grew g)
  replace gg := gg.trans g
  clear g
  go_wp2_with fail
  refine (meet_val Ha.out Hr17.out (by omega) (by omega) rfl).mono ?_
  rintro e v26 ⟨Ar18, nr18, cr18, rfl, hh, g⟩
  have Lr18 : Hid ((meet a (uni b c)).length ≤ 600) := nf_le (bf := andB) (q := 240) La.out Lr17.out (by decide)
  have br18 : nr18 ≤ 600 := by rw [← hh.1]; exact Lr18.out
  have Hr18 := Lib.hid hh
  clear hh
  replace Ha := Lib.hid (Ha.out.grew g)
  replace Hb := Lib.hid (Hb.out.grew g)
  replace Hc := Lib.hid (Hc.out.grew g)
  replace Hr17 := Lib.hid (Hr17.out.grew g)
  replace gg := gg.trans g
  clear g
  go_wp2_with fail
  refine (meet_val Ha.out Hb.out (by omega) (by omega) rfl).mono ?_
  rintro e v27 ⟨Ar19, nr19, cr19, rfl, hh, g⟩
  have Lr19 : Hid ((meet a b).length ≤ 240) := nf_le (bf := andB) (q := 60) La.out Lb.out (by decide)
  have br19 : nr19 ≤ 240 := by rw [← hh.1]; exact Lr19.out
  have Hr19 := Lib.hid hh
  clear hh
  replace Ha := Lib.hid (Ha.out.grew g)
  replace Hb := Lib.hid (Hb.out.grew g)
  replace Hc := Lib.hid (Hc.out.grew g)
  replace Hr17 := Lib.hid (Hr17.out.grew g)
  replace Hr18 := Lib.hid (Hr18.out.grew g)
  replace gg := gg.trans g
  clear g
  go_wp2_with fail
  refine (meet_val Ha.out Hc.out (by omega) (by omega) rfl).mono ?_
  rintro e v28 ⟨Ar20, nr20, cr20, rfl, hh, g⟩
  have Lr20 : Hid ((meet a c).length ≤ 240) := nf_le (bf := andB) (q := 60) La.out Lc.out (by decide)
  have br20 : nr20 ≤ 240 := by rw [← hh.1]; exact Lr20.out
  have Hr20 := Lib.hid hh
  clear hh
  replace Ha := Lib.hid (Ha.out.grew g)
  replace Hb := Lib.hid (Hb.out.grew g)
  replace Hc := Lib.hid (Hc.out.grew g)
  replace Hr17 := Lib.hid (Hr17.out.grew g)
  replace Hr18 := Lib.hid (Hr18.out.grew g)
  replace Hr19 := Lib.hid (Hr19.out.grew g)
  replace gg := gg.trans g
  clear g
  go_wp2_with fail
  refine (union_val Hr19.out Hr20.out (by omega) (by omega) rfl).mono ?_
  rintro e v29 ⟨Ar21, nr21, cr21, rfl, hh, g⟩
  have Lr21 : Hid ((uni (meet a b) (meet a c)).length ≤ 960) := nf_le (bf := orB) (q := 240) Lr19.out Lr20.out (by decide)
  have br21 : nr21 ≤ 960 := by rw [← hh.1]; exact Lr21.out
  have Hr21 := Lib.hid hh
  clear hh
  replace Ha := Lib.hid (Ha.out.grew g)
  replace Hb := Lib.hid (Hb.out.grew g)
  replace Hc := Lib.hid (Hc.out.grew g)
  replace Hr17 := Lib.hid (Hr17.out.grew g)
  replace Hr18 := Lib.hid (Hr18.out.grew g)
  replace Hr19 := Lib.hid (Hr19.out.grew g)
  replace Hr20 := Lib.hid (Hr20.out.grew g)
  replace gg := gg.trans g
  clear g
  go_wp2_with fail
  refine (same_val Hr18.out Hr21.out (decide_eq_true (alg7 a b c))).mono ?_
  rintro e v30 ⟨rfl, g⟩
  replace Ha := Lib.hid (Ha.out.grew g)
  replace Hb := Lib.hid (Hb.out.grew g)
  replace Hc := Lib.hid (Hc.out.grew g)
  replace Hr17 := Lib.hid (Hr17.out.grew g)
  replace Hr18 := Lib.hid (Hr18.out.grew g)
  replace Hr19 := Lib.hid (Hr19.out.grew g)
  replace Hr20 := Lib.hid (Hr20.out.grew g)
  replace Hr21 := Lib.hid (Hr21.out.grew g)
  replace gg := gg.trans g
  clear g
  clear Hr17
  clear Hr20
  clear Hr19
  clear Hr18
  clear Hr21
  go_wp2_with fail
  refine (meet_val Hb.out Hc.out (by omega) (by omega) rfl).mono ?_
  rintro e v31 ⟨Ar22, nr22, cr22, rfl, hh, g⟩
  have Lr22 : Hid ((meet b c).length ≤ 240) := nf_le (bf := andB) (q := 60) Lb.out Lc.out (by decide)
  have br22 : nr22 ≤ 240 := by rw [← hh.1]; exact Lr22.out
  have Hr22 := Lib.hid hh
  clear hh
  replace Ha := Lib.hid (Ha.out.grew g)
  replace Hb := Lib.hid (Hb.out.grew g)
  replace Hc := Lib.hid (Hc.out.grew g)
  replace gg := gg.trans g
  clear g
  go_wp2_with fail
  refine (union_val Ha.out Hr22.out (by omega) (by omega) rfl).mono ?_
  rintro e v32 ⟨Ar23, nr23, cr23, rfl, hh, g⟩
  have Lr23 : Hid ((uni a (meet b c)).length ≤ 600) := nf_le (bf := orB) (q := 240) La.out Lr22.out (by decide)
  have br23 : nr23 ≤ 600 := by rw [← hh.1]; exact Lr23.out
  have Hr23 := Lib.hid hh
  clear hh
  replace Ha := Lib.hid (Ha.out.grew g)
  replace Hb := Lib.hid (Hb.out.grew g)
  replace Hc := Lib.hid (Hc.out.grew g)
  replace Hr22 := Lib.hid (Hr22.out.grew g)
  replace gg := gg.trans g
  clear g
  go_wp2_with fail
  refine (union_val Ha.out Hb.out (by omega) (by omega) rfl).mono ?_
  rintro e v33 ⟨Ar24, nr24, cr24, rfl, hh, g⟩
  have Lr24 : Hid ((uni a b).length ≤ 240) := nf_le (bf := orB) (q := 60) La.out Lb.out (by decide)
  have br24 : nr24 ≤ 240 := by rw [← hh.1]; exact Lr24.out
  have Hr24 := Lib.hid hh
  clear hh
  replace Ha := Lib.hid (Ha.out.grew g)
  replace Hb := Lib.hid (Hb.out.grew g)
  replace Hc := Lib.hid (Hc.out.grew g)
  replace Hr22 := Lib.hid (Hr22.out.grew g)
  replace Hr23 := Lib.hid (Hr23.out.grew g)
  replace gg := gg.trans g
  clear g
  go_wp2_with fail
  refine (union_val Ha.out Hc.out (by omega) (by omega) rfl).mono ?_
  rintro e v34 ⟨Ar25, nr25, cr25, rfl, hh, g⟩
  have Lr25 : Hid ((uni a c).length ≤ 240) := nf_le (bf := orB) (q := 60) La.out Lc.out (by decide)
  have br25 : nr25 ≤ 240 := by rw [← hh.1]; exact Lr25.out
  have Hr25 := Lib.hid hh
  clear hh
  replace Ha := Lib.hid (Ha.out.grew g)
  replace Hb := Lib.hid (Hb.out.grew g)
  replace Hc := Lib.hid (Hc.out.grew g)
  replace Hr22 := Lib.hid (Hr22.out.grew g)
  replace Hr23 := Lib.hid (Hr23.out.grew g)
  replace Hr24 := Lib.hid (Hr24.out.grew g)
  replace gg := gg.trans g
  clear g
  go_wp2_with fail
  refine (meet_val Hr24.out Hr25.out (by omega) (by omega) rfl).mono ?_
  rintro e v35 ⟨Ar26, nr26, cr26, rfl, hh, g⟩
  have Lr26 : Hid ((meet (uni a b) (uni a c)).length ≤ 960) := nf_le (bf := andB) (q := 240) Lr24.out Lr25.out (by decide)
  have br26 : nr26 ≤ 960 := by rw [← hh.1]; exact Lr26.out
  have Hr26 := Lib.hid hh
  clear hh
  replace Ha := Lib.hid (Ha.out.grew g)
  replace Hb := Lib.hid (Hb.out.grew g)
  replace Hc := Lib.hid (Hc.out.grew g)
  replace Hr22 := Lib.hid (Hr22.out.grew g)
  replace Hr23 := Lib.hid (Hr23.out.grew g)
  replace Hr24 := Lib.hid (Hr24.out.grew g)
  replace Hr25 := Lib.hid (Hr25.out.grew g)
  replace gg := gg.trans g
  clear g
  go_wp2_with fail
  refine (same_val Hr23.out Hr26.out (decide_eq_true (alg8 a b c))).mono ?_
  rintro e v36 ⟨rfl, g⟩
  replace Ha := Lib.hid (Ha.out.grew g)
  replace Hb := Lib.hid (Hb.out.grew g)
  replace Hc := Lib.hid (Hc.out.grew g)
  replace Hr22 := Lib.hid (Hr22.out.grew g)
  replace Hr23 := Lib.hid (Hr23.out.grew g)
  replace Hr24 := Lib.hid (Hr24.out.grew g)
  replace Hr25 := Lib.hid (Hr25.out.grew g)
  replace Hr26 := Lib.hid (Hr26.out.grew g)
  replace gg := gg.trans g
  clear g
  clear Hr24
  clear Hr23
  clear Hr25
  clear Hr22
  clear Hr26
  go_wp2_with fail
  refine (minus_val Ha.out Hb.out (by omega) (by omega) rfl).mono ?_
  rintro e v37 ⟨Ar27, nr27, cr27, rfl, hh, g⟩
  have Lr27 : Hid ((minus a b).length ≤ 240) := nf_le (bf := butB) (q := 60) La.out Lb.out (by decide)
  have br27 : nr27 ≤ 240 := by rw [← hh.1]; exact Lr27.out
  have Hr27 := Lib.hid hh
  clear hh
  replace Ha := Lib.hid (Ha.out.grew g)
  replace Hb := Lib.hid (Hb.out.grew g)
  replace Hc := Lib.hid (Hc.out.grew g)
  replace gg := gg.trans g
  clear g
  go_wp2_with fail
  refine (minus_val Ha.out Hr27.out (by omega) (by omega) rfl).mono ?_
  rintro e v38 ⟨Ar28, nr28, cr28, rfl, hh, g⟩
  have Lr28 : Hid ((minus a (minus a b)).length ≤ 600) := nf_le (bf := butB) (q := 240) La.out Lr27.out (by decide)
  have br28 : nr28 ≤ 600 := by rw [← hh.1]; exact Lr28.out
  have Hr28 := Lib.hid hh
  clear hh
  replace Ha := Lib.hid (Ha.out.grew g)
  replace Hb := Lib.hid (Hb.out.grew g)
  replace Hc := Lib.hid (Hc.out.grew g)
  replace Hr27 := Lib.hid (Hr27.out.grew g)
  replace gg := gg.trans g
  clear g
  go_wp2_with fail
  refine (meet_val Ha.out Hb.out (by omega) (by omega) rfl).mono ?_
  rintro e v39 ⟨Ar29, nr29, cr29, rfl, hh, g⟩
  have Lr29 : Hid ((meet a b).length ≤ 240) := nf_le (bf := andB) (q := 60) La.out Lb.out (by decide)
  have br29 : nr29 ≤ 240 := by rw [← hh.1]; exact Lr29.out
  have Hr29 := Lib.hid hh
  clear hh
  replace Ha := Lib.hid (Ha.out.grew g)
  replace Hb := Lib.hid (Hb.out.grew g)
  replace Hc := Lib.hid (Hc.out.grew g)
  replace Hr27 := Lib.hid (Hr27.out.grew g)
  replace Hr28 := Lib.hid (Hr28.out.grew g)
  replace gg := gg.trans g
  clear g
  go_wp2_with fail
  refine (same_val Hr28.out Hr29.out (decide_eq_true (alg9 a b c))).mono ?_
  rintro e v40 ⟨rfl, g⟩
  replace Ha := Lib.hid (Ha.out.grew g)
  replace Hb := Lib.hid (Hb.out.grew g)
  replace Hc := Lib.hid (Hc.out.grew g)
  replace Hr27 := Lib.hid (Hr27.out.grew g)
  replace Hr28 := Lib.hid (Hr28.out.grew g)
  replace Hr29 := Lib.hid (Hr29.out.grew g)
  replace gg := gg.trans g
  clear g
  clear Hr29
  clear Hr27
  clear Hr28
  go_wp2_with fail
  refine (union_val Hb.out Hc.out (by omega) (by omega) rfl).mono ?_
  rintro e v41 ⟨Ar30, nr30, cr30, rfl, hh, g⟩
  have Lr30 : Hid ((uni b c).length ≤ 240) := nf_le (bf := orB) (q := 60) Lb.out Lc.out (by decide)
  have br30 : nr30 ≤ 240 := by rw [← hh.1]; exact Lr30.out
  have Hr30 := Lib.hid hh
  clear hh
  replace Ha := Lib.hid (Ha.out.grew g)
  replace Hb := Lib.hid (Hb.out.grew g)
  replace Hc := Lib.hid (Hc.out.grew g)
  replace gg := gg.trans g
  clear g
  go_wp2_with fail
  refine (minus_val Ha.out Hr30.out (by omega) (by omega) rfl).mono ?_
  rintro e v42 ⟨Ar31, nr31, cr31, rfl, hh, g⟩
  have Lr31 : Hid ((minus a (uni b c)).length ≤ 600) := nf_le (bf := butB) (q := 240) La.out Lr30.out (by decide)
  have br31 : nr31 ≤ 600 := by rw [← hh.1]; exact Lr31.out
  have Hr31 := Lib.hid hh
  clear hh
  replace Ha := Lib.hid (Ha.out.grew g)
  replace Hb := Lib.hid (Hb.out.grew g)
  replace Hc := Lib.hid (Hc.out.grew g)
  replace Hr30 := Lib.hid (Hr30.out.grew g)
  replace gg := gg.trans g
  clear g
  go_wp2_with fail
  refine (minus_val Ha.out Hb.out (by omega) (by omega) rfl).mono ?_
  rintro e v43 ⟨Ar32, nr32, cr32, rfl, hh, g⟩
  have Lr32 : Hid ((minus a b).length ≤ 240) := nf_le (bf := butB) (q := 60) La.out Lb.out (by decide)
  have br32 : nr32 ≤ 240 := by rw [← hh.1]; exact Lr32.out
  have Hr32 := Lib.hid hh
  clear hh
  replace Ha := Lib.hid (Ha.out.grew g)
  replace Hb := Lib.hid (Hb.out.grew g)
  replace Hc := Lib.hid (Hc.out.grew g)
  replace Hr30 := Lib.hid (Hr30.out.grew g)
  replace Hr31 := Lib.hid (Hr31.out.grew g)
  replace gg := gg.trans g
  clear g
  go_wp2_with fail
  refine (minus_val Ha.out Hc.out (by omega) (by omega) rfl).mono ?_
  rintro e v44 ⟨Ar33, nr33, cr33, rfl, hh, g⟩
  have Lr33 : Hid ((minus a c).length ≤ 240) := nf_le (bf := butB) (q := 60) La.out Lc.out (by decide)
  have br33 : nr33 ≤ 240 := by rw [← hh.1]; exact Lr33.out
  have Hr33 := Lib.hid hh
  clear hh
  replace Ha := Lib.hid (Ha.out.grew g)
  replace Hb := Lib.hid (Hb.out.grew g)
  replace Hc := Lib.hid (Hc.out.grew g)
  replace Hr30 := Lib.hid (Hr30.out.grew g)
  replace Hr31 := Lib.hid (Hr31.out.grew g)
  replace Hr32 := Lib.hid (Hr32.out.grew g)
  replace gg := gg.trans g
  clear g
  go_wp2_with fail
  refine (meet_val Hr32.out Hr33.out (by omega) (by omega) rfl).mono ?_
  rintro e v45 ⟨Ar34, nr34, cr34, rfl, hh, g⟩
  have Lr34 : Hid ((meet (minus a b) (minus a c)).length ≤ 960) := nf_le (bf := andB) (q := 240) Lr32.out Lr33.out (by decide)
  have br34 : nr34 ≤ 960 := by rw [← hh.1]; exact Lr34.out
  have Hr34 := Lib.hid hh
  clear hh
  replace Ha := Lib.hid (Ha.out.grew g)
  replace Hb := Lib.hid (Hb.out.grew g)
  replace Hc := Lib.hid (Hc.out.grew g)
  replace Hr30 := Lib.hid (Hr30.out.grew g)
  replace Hr31 := Lib.hid (Hr31.out.grew g)
  replace Hr32 := Lib.hid (Hr32.out.grew g)
  replace Hr33 := Lib.hid (Hr33.out.grew g)
  replace gg := gg.trans g
  clear g
  go_wp2_with fail
  refine (same_val Hr31.out Hr34.out (decide_eq_true (alg10 a b c))).mono ?_
  rintro e v46 ⟨rfl, g⟩
  replace Ha := Lib.hid (Ha.out.grew g)
  replace Hb := Lib.hid (Hb.out.grew g)
  replace Hc := Lib.hid (Hc.out.grew g)
  replace Hr30 := Lib.hid (Hr30.out.grew g)
  replace Hr31 := Lib.hid (Hr31.out.grew g)
  replace Hr32 := Lib.hid (Hr32.out.grew g)
  replace Hr33 := Lib.hid (Hr33.out.grew g)
  replace Hr34 := Lib.hid (Hr34.out.grew g)
  replace gg := gg.trans g
  clear g
  clear Hr33
  clear Hr34
  clear Hr32
  clear Hr31
  clear Hr30
  go_wp2_with fail
  refine (meet_val Hb.out Hc.out (by omega) (by omega) rfl).mono ?_
  rintro e v47 ⟨Ar35, nr35, cr35, rfl, hh, g⟩
  have Lr35 : Hid ((meet b c).length ≤ 240) := nf_le (bf := andB) (q := 60) Lb.out Lc.out (by decide)
  have br35 : nr35 ≤ 240 := by rw [← hh.1]; exact Lr35.out
  have Hr35 := Lib.hid hh
  clear hh
  replace Ha := Lib.hid (Ha.out.grew g)
  replace Hb := Lib.hid (Hb.out.grew g)
  replace Hc := Lib.hid (Hc.out.grew g)
  replace gg := gg.trans g
  clear g
  go_wp2_with fail
  refine (minus_val Ha.out Hr35.out (by omega) (by omega) rfl).mono ?_
  rintro e v48 ⟨Ar36, nr36, cr36, rfl, hh, g⟩
  have Lr36 : Hid ((minus a (meet b c)).length ≤ 600) := nf_le (bf := butB) (q := 240) La.out Lr35.out (by decide)
  have br36 : nr36 ≤ 600 := by rw [← hh.1]; exact Lr36.out
  have Hr36 := Lib.hid hh
  clear hh
  replace Ha := Lib.hid (Ha.out.grew g)
  replace Hb := Lib.hid (Hb.out.grew g)
  replace Hc := Lib.hid (Hc.out.grew g)
  replace Hr35 := Lib.hid (Hr35.out.grew g)
  replace gg := gg.trans g
  clear g
  go_wp2_with fail
  refine (minus_val Ha.out Hb.out (by omega) (by omega) rfl).mono ?_
  rintro e v49 ⟨Ar37, nr37, cr37, rfl, hh, g⟩
  have Lr37 : Hid ((minus a b).length ≤ 240) := nf_le (bf := butB) (q := 60) La.out Lb.out (by decide)
  have br37 : nr37 ≤ 240 := by rw [← hh.1]; exact Lr37.out
  have Hr37 := Lib.hid hh
  clear hh
  replace Ha := Lib.hid (Ha.out.grew g)
  replace Hb := Lib.hid (Hb.out.grew g)
  replace Hc := Lib.hid (Hc.out.grew g)
  replace Hr35 := Lib.hid (Hr35.out.grew g)
  replace Hr36 := Lib.hid (Hr36.out.grew g)
  replace gg := gg.trans g
  clear g
  go_wp2_with fail
  refine (minus_val Ha.out Hc.out (by omega) (by omega) rfl).mono ?_
  rintro e v50 ⟨Ar38, nr38, cr38, rfl, hh, g⟩
  have Lr38 : Hid ((minus a c).length ≤ 240) := nf_le (bf := butB) (q := 60) La.out Lc.out (by decide)
  have br38 : nr38 ≤ 240 := by rw [← hh.1]; exact Lr38.out
  have Hr38 := Lib.hid hh
  clear hh
  replace Ha := Lib.hid (Ha.out.grew g)
  replace Hb := Lib.hid (Hb.out.grew g)
  replace Hc := Lib.hid (Hc.out.grew g)
  replace Hr35 := Lib.hid (Hr35.out.grew g)
  replace Hr36 := Lib.hid (Hr36.out.grew g)
  replace Hr37 := Lib.hid (Hr37.out.grew g)
  replace gg := gg.trans g
  clear g
  go_wp2_with fail
  refine (union_val Hr37.out Hr38.out (by omega) (by omega) rfl).mono ?_
  rintro e v51 ⟨Ar39, nr39, cr39, rfl, hh, g⟩
  have Lr39 : Hid ((uni (minus a b) (minus a c)).length ≤ 960) := nf_le (bf := orB) (q := 240) Lr37.out Lr38.out (by decide)
  have br39 : nr39 ≤ 960 := by rw [← hh.1]; exact Lr39.out
  have Hr39 := Lib.hid hh
  clear hh
  replace Ha := Lib.hid (Ha.out.grew g)
  replace Hb := Lib.hid (Hb.out.grew g)
  replace Hc := Lib.hid (Hc.out.grew g)
  replace Hr35 := Lib.hid (Hr35.out.grew g)
  replace Hr36 := Lib.hid (Hr36.out.grew g)
  replace Hr37 := Lib.hid (Hr37.out.grew g)
  replace Hr38 := Lib.hid (Hr38.out.grew g)
  replace gg := gg.trans g
  clear g
  go_wp2_with fail
  refine (same_val Hr36.out Hr39.out (decide_eq_true (alg11 a b c))).mono ?_
  rintro e v52 ⟨rfl, g⟩
  replace Ha := Lib.hid (Ha.out.grew g)
  replace Hb := Lib.hid (Hb.out.grew g)
  replace Hc := Lib.hid (Hc.out.grew g)
  replace Hr35 := Lib.hid (Hr35.out.grew g)
  replace Hr36 := Lib.hid (Hr36.out.grew g)
  replace Hr37 := Lib.hid (Hr37.out.grew g)
  replace Hr38 := Lib.hid (Hr38.out.grew g)
  replace Hr39 := Lib.hid (Hr39.out.grew g)
  replace gg := gg.trans g
  clear g
  clear Hr38
  clear Hr37
  clear Hr35
  clear Hr36
  clear Hr39
  go_wp2_with fail
  go_ret
  exact ⟨rfl, gg⟩
theorem alg_law (Aa : Option Addr) (na ca : Nat) (a : List Sp) (Ab : Option Addr) (nb cb : Nat) (b : List Sp) (Ac : Option Addr) (nc cc : Nat) (c : List Sp) (w : World) (ha : Spans w Aa na ca a) (hb : Spans w Ab nb cb b) (hc : Spans w Ac nc cc c) :
    Calls Try.prog 6 #[.slice Aa na ca, .slice Ab nb cb, .slice Ac nc cc] w fun e w' => e = .returned (.bool true) ∧ Grew w w' := by
  cases hs : shortB [(Aa, na, ca), (Ab, nb, cb), (Ac, nc, cc)] with
  | false => exact alg_skip Aa na ca a Ab nb cb b Ac nc cc c w ha hb hc hs
  | true =>
    unfold shortB at hs
    simp at hs
    exact alg_main Aa na ca a Ab nb cb b Ac nc cc c w ha hb hc (by omega) (by omega) (by omega)
end Go.Proofs.Ytngbkpplkkpagaa
