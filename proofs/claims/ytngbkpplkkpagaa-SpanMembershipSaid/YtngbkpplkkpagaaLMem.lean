/-
  The law SpanMembership, walked.
-/
import Derived.Test.YtngbkpplkkpagaaFar
namespace Go.Proofs.Ytngbkpplkkpagaa
open Go.RowKit Go.Proofs WageMem WageSpan
set_option maxRecDepth 100000 in
set_option maxHeartbeats 16000000 in
theorem mem_skip (Aa : Option Addr) (na ca : Nat) (a : List Sp) (Ab : Option Addr) (nb cb : Nat) (b : List Sp) (w : World) (_ha : Spans w Aa na ca a) (_hb : Spans w Ab nb cb b) (n p d : Int) (_p0 : 0 ≤ p) (_p1 : p ≤ 255) (_d0 : -128 ≤ d) (_d1 : d ≤ 127) (hs : shortB [(Aa, na, ca), (Ab, nb, cb)] = false) :
    Calls Try.prog 5 #[.slice Aa na ca, .slice Ab nb cb, .int .i64 n, .int .u8 p, .int .i8 d] w fun e w' => e = .returned (.bool true) ∧ Grew w w' := by
  have gg : Grew w w := Grew.refl w
  have HSH := Lib.hid hs
  clear hs
  go_enter Try.func5, Try.ntmps5
  go_wp2_with fail
  refine (head_true _).mono ?_
  rintro e v1 ⟨rfl, g⟩
  replace gg := gg.trans g
  clear g
  go_wp2_with fail
  refine (short_val [(Aa, na, ca), (Ab, nb, cb)] rfl rfl (by simp) HSH.out).mono ?_
  rintro e v2 ⟨rfl, g⟩
  replace gg := gg.trans g
  clear g
  go_wp2_with fail
  go_ret
  exact ⟨rfl, gg⟩
set_option maxRecDepth 100000 in
set_option maxHeartbeats 16000000 in
theorem mem_main (Aa : Option Addr) (na ca : Nat) (a : List Sp) (Ab : Option Addr) (nb cb : Nat) (b : List Sp) (w : World) (ha : Spans w Aa na ca a) (hb : Spans w Ab nb cb b) (n p d : Int) (p0 : 0 ≤ p) (p1 : p ≤ 255) (d0 : -128 ≤ d) (d1 : d ≤ 127) (ba : na ≤ 60) (bb : nb ≤ 60) :
    Calls Try.prog 5 #[.slice Aa na ca, .slice Ab nb cb, .int .i64 n, .int .u8 p, .int .i8 d] w fun e w' => e = .returned (.bool true) ∧ Grew w w' := by
  have gg : Grew w w := Grew.refl w
  have Ha := Lib.hid ha
  have La : Hid (a.length ≤ 60) := by unfold Hid; rw [ha.1]; exact ba
  have Hb := Lib.hid hb
  have Lb : Hid (b.length ≤ 60) := by unfold Hid; rw [hb.1]; exact bb
  have HSH : Hid (shortB [(Aa, na, ca), (Ab, nb, cb)] = true) := by unfold Hid shortB; simp [ba, bb]
  obtain ⟨i0, hi, hz0, hz1, hz2⟩ := info_parts info33
  have IN := Lib.hid (in64_append ha.2.2 hb.2.2)
  have Lr1 : Hid ((uni a b).length ≤ 240) := by have := nf_len orB a b; have h1 := La.out; have h2 := Lb.out; show (nf orB a b).length ≤ 240; omega
  have Lr2 : Hid ((meet a b).length ≤ 240) := by have := nf_len andB a b; have h1 := La.out; have h2 := Lb.out; show (nf andB a b).length ≤ 240; omega
  have Lr3 : Hid ((minus a b).length ≤ 240) := by have := nf_len butB a b; have h1 := La.out; have h2 := Lb.out; show (nf butB a b).length ≤ 240; omega
  clear ha hb
  go_enter Try.func5, Try.ntmps5
  go_wp2_with fail
  refine (head_true _).mono ?_
  rintro e v1 ⟨rfl, g⟩
  replace Ha := Lib.hid (Ha.out.grew g)
  replace Hb := Lib.hid (Hb.out.grew g)
  replace gg := gg.trans g
  clear g
  go_wp2_with fail
  refine (short_val [(Aa, na, ca), (Ab, nb, cb)] rfl rfl (by simp) HSH.out).mono ?_
  rintro e v2 ⟨rfl, g⟩
  replace Ha := Lib.hid (Ha.out.grew g)
  replace Hb := Lib.hid (Hb.out.grew g)
  replace gg := gg.trans g
  clear g
  have hsz : na + nb ≤ 120 := by omega
  have hown : (v2.alloc (.cells #[] 33)).ownsRow v2.heap.size 33 2 (.slice (some ⟨v2.heap.size, 0, none⟩) 0 0) 0 [] := World.ownsRow_made v2 #[] 0 (Nat.le_refl _) (Nat.zero_le _) rfl
  have HOW := Lib.hid hown
  clear hown
  go_upto_region 5 with (first
    | (at_builtin; refine wpList_append_sl _ rfl (.tmp 23) (.tmp 24) 22 rfl v2.heap.size 33 i0 (.agg #[.int .i64 0, .int .i64 0]) 2 16 Try.underlying22 hi hz0 hz1 hz2 rfl (by decide) (.slice (some ⟨v2.heap.size, 0, none⟩) 0 0) 0 [] rfl HOW.out Aa na ca (flat a) rfl (Ha.out.2.1.grew ((Grew.refl v2).alloc _)) (flat_one _) (by unfold maxLen; omega) (by omega) (by simp) ?_; intro v3 w3 own3 hg3 hat3; rw [Nat.zero_add, List.nil_append] at own3; obtain ⟨A3, c3, rfl⟩ := own_form own3; have gr3 : Grew v2 w3 := ((Grew.refl v2).alloc _).grown hg3 (by simp [Value.ownBlock]))
    | (at_builtin; refine wpList_append_sl _ rfl (.tmp 25) (.tmp 26) 22 rfl v2.heap.size 33 i0 (.agg #[.int .i64 0, .int .i64 0]) 2 16 Try.underlying22 hi hz0 hz1 hz2 rfl (by decide) _ na _ rfl own3 Ab nb cb (flat b) rfl (Hb.out.2.1.grew gr3) (flat_one _) (by unfold maxLen; omega) (by omega) gr3.le ?_; intro v4 w4 own4 hg4 hat4; obtain ⟨A4, c4, rfl⟩ := own_form own4))
  have gr4 : Grew v2 w4 := gr3.grown hg4 (fun q hq => (own3.lt q hq).1)
  obtain ⟨m, hm⟩ : ∃ m, na + nb = m := ⟨_, rfl⟩
  rw [hm] at own4
  rw [← flat_append] at own4
  rw [hm]
  have hall : Spans w4 A4 m c4 (a ++ b) := Spans.own (by rw [List.length_append, Ha.out.1, Hb.out.1]; omega) IN.out own4
  have hm2 : m ≤ 120 := by omega
  have HALL := Lib.hid hall
  clear own4 hg4 hat4 hall own3 hg3 hat3 gr3 HOW
  replace Ha := Lib.hid (Ha.out.grew gr4)
  replace Hb := Lib.hid (Hb.out.grew gr4)
  replace gg := gg.trans gr4
  clear gr4
  obtain ⟨s, hs⟩ : ∃ s : Sp, m = 0 ∨ (0 < m ∧ ∃ (q : Nat) (b o : Nat), p % (m : Int) = (q : Int) ∧ q < m ∧ A4 = some ⟨b, o, none⟩ ∧ w4.cell? ⟨b, o + q * 2, none⟩ = some (.int .i64 s.1) ∧ w4.cell? ⟨b, o + q * 2 + 1, none⟩ = some (.int .i64 s.2)) := by
    by_cases h0 : m = 0
    · exact ⟨(0, 0), .inl h0⟩
    · obtain ⟨q, hq⟩ : ∃ q : Nat, p % (m : Int) = (q : Int) := ⟨(p % (m : Int)).toNat, by have := Int.emod_nonneg p (show (m : Int) ≠ 0 by omega); omega⟩
      have hqm : q < m := by have := Int.emod_lt_of_pos p (show (0 : Int) < m by omega); omega
      obtain ⟨b, o, s, e, _, c1, c2, _, _⟩ := HALL.out.at_ hqm
      exact ⟨s, .inr ⟨by omega, q, b, o, hq, hqm, e, c1, c2⟩⟩
  clear HALL hm
  obtain ⟨s1, s2⟩ := s
  simp only at hs
  rcases hs with h0 | ⟨h0, q, bb, oo, hq, hqm, rfl, c1, c2⟩
  · skip
    have t1 : decide (0 < m) = false := decide_eq_false (by omega)
    clear h0
    obtain ⟨x, hx⟩ : ∃ x, hasB a n = x := ⟨_, rfl⟩
    obtain ⟨y, hy⟩ : ∃ y, hasB b n = y := ⟨_, rfl⟩
    have HX := Lib.hid hx
    have HY := Lib.hid hy
    have HU : Hid (hasB (uni a b) n = (x || y)) := by unfold Hid; rw [uni_has, hx, hy]
    have HM : Hid (hasB (meet a b) n = (x && y)) := by unfold Hid; rw [meet_has, hx, hy]
    have HI : Hid (hasB (minus a b) n = (x && !y)) := by unfold Hid; rw [minus_has, hx, hy]
    clear hx hy
    go_wp2_with fail
    refine (has_val Ha.out HX.out).mono ?_
    rintro e v11 ⟨rfl, g⟩
    replace Ha := Lib.hid (Ha.out.grew g)
    replace Hb := Lib.hid (Hb.out.grew g)
    replace gg := gg.trans g
    clear g
    go_wp2_with fail
    refine (has_val Hb.out HY.out).mono ?_
    rintro e v12 ⟨rfl, g⟩
    replace Ha := Lib.hid (Ha.out.grew g)
    replace Hb := Lib.hid (Hb.out.grew g)
    replace gg := gg.trans g
    clear g
    cases x <;> cases y
    all_goals
      go_wp2_with fail
      refine (union_val Ha.out Hb.out (by omega) (by omega) rfl).mono ?_
      rintro e v13 ⟨Ar1, nr1, cr1, rfl, hh, g⟩
      have br1 : nr1 ≤ 240 := by rw [← hh.1]; exact Lr1.out
      have Hr1 := Lib.hid hh
      clear hh
      replace Ha := Lib.hid (Ha.out.grew g)
      replace Hb := Lib.hid (Hb.out.grew g)
      replace gg := gg.trans g
      clear g
      go_wp2_with fail
      refine (has_val Hr1.out HU.out).mono ?_
      rintro e v14 ⟨rfl, g⟩
      replace Ha := Lib.hid (Ha.out.grew g)
      replace Hb := Lib.hid (Hb.out.grew g)
      replace Hr1 := Lib.hid (Hr1.out.grew g)
      replace gg := gg.trans g
      clear g
      go_wp2_with fail
      refine (meet_val Ha.out Hb.out (by omega) (by omega) rfl).mono ?_
      rintro e v15 ⟨Ar2, nr2, cr2, rfl, hh, g⟩
      have br2 : nr2 ≤ 240 := by rw [← hh.1]; exact Lr2.out
      have Hr2 := Lib.hid hh
      clear hh
      replace Ha := Lib.hid (Ha.out.grew g)
      replace Hb := Lib.hid (Hb.out.grew g)
      replace Hr1 := Lib.hid (Hr1.out.grew g)
      replace gg := gg.trans g
      clear g
      go_wp2_with fail
      refine (has_val Hr2.out HM.out).mono ?_
      rintro e v16 ⟨rfl, g⟩
      replace Ha := Lib.hid (Ha.out.grew g)
      replace Hb := Lib.hid (Hb.out.grew g)
      replace Hr1 := Lib.hid (Hr1.out.grew g)
      replace Hr2 := Lib.hid (Hr2.out.grew g)
      replace gg := gg.trans g
      clear g
      go_wp2_with fail
      refine (minus_val Ha.out Hb.out (by omega) (by omega) rfl).mono ?_
      rintro e v17 ⟨Ar3, nr3, cr3, rfl, hh, g⟩
      have br3 : nr3 ≤ 240 := by rw [← hh.1]; exact Lr3.out
      have Hr3 := Lib.hid hh
      clear hh
      replace Ha := Lib.hid (Ha.out.grew g)
      replace Hb := Lib.hid (Hb.out.grew g)
      replace Hr1 := Lib.hid (Hr1.out.grew g)
      replace Hr2 := Lib.hid (Hr2.out.grew g)
      replace gg := gg.trans g
      clear g
      go_wp2_with fail
      refine (has_val Hr3.out HI.out).mono ?_
      rintro e v18 ⟨rfl, g⟩
      replace Ha := Lib.hid (Ha.out.grew g)
      replace Hb := Lib.hid (Hb.out.grew g)
      replace Hr1 := Lib.hid (Hr1.out.grew g)
      replace Hr2 := Lib.hid (Hr2.out.grew g)
      replace Hr3 := Lib.hid (Hr3.out.grew g)
      replace gg := gg.trans g
      clear g
      go_wp2_with fail
      go_ret
      exact ⟨rfl, gg⟩
  · have t1 : decide (0 < m) = true := decide_eq_true (by omega)
    have j0 : (0 : Int) ≤ (q : Int) := by omega
    have j1 : (q : Int) < (m : Int) := by omega
    obtain ⟨wa, hwa⟩ : ∃ x, x = w4.alloc (.cells #[.int .i64 s1, .int .i64 s2] 33) := ⟨_, rfl⟩
    have ga : Grew w4 wa := by rw [hwa]; exact (Grew.refl _).alloc _
    have e1 : wa.cell? ⟨w4.heap.size, 0, none⟩ = some (.int .i64 s1) := by rw [hwa]; simp
    have e2 : wa.cell? ⟨w4.heap.size, 1, none⟩ = some (.int .i64 s2) := by rw [hwa]; simp
    clear h0
    by_cases q1 : -2 < d
    · have u1 : decide (-2 < d) = true := decide_eq_true q1
      by_cases q2 : d < 2
      · have u2 : decide (d < 2) = true := decide_eq_true q2
        cases hf : farB s1 s2 with
        | false =>
          · skip
            have HF := Lib.hid hf
            clear hf
            go_upto_region 7 with (fail)
            rw [← hwa]
            clear hwa c1 c2
            replace Ha := Lib.hid (Ha.out.grew ga)
            replace Hb := Lib.hid (Hb.out.grew ga)
            replace gg := gg.trans ga
            clear ga
            go_wp2_with fail
            refine (far_val HF.out _).mono ?_
            rintro e v19 ⟨rfl, g⟩
            replace e1 := g.cell e1
            replace e2 := g.cell e2
            replace Ha := Lib.hid (Ha.out.grew g)
            replace Hb := Lib.hid (Hb.out.grew g)
            replace gg := gg.trans g
            clear g
            have qf := HF.out
            obtain ⟨x, hx⟩ : ∃ x, hasB a n = x := ⟨_, rfl⟩
            obtain ⟨y, hy⟩ : ∃ y, hasB b n = y := ⟨_, rfl⟩
            have HX := Lib.hid hx
            have HY := Lib.hid hy
            have HU : Hid (hasB (uni a b) n = (x || y)) := by unfold Hid; rw [uni_has, hx, hy]
            have HM : Hid (hasB (meet a b) n = (x && y)) := by unfold Hid; rw [meet_has, hx, hy]
            have HI : Hid (hasB (minus a b) n = (x && !y)) := by unfold Hid; rw [minus_has, hx, hy]
            clear hx hy
            go_wp2_with fail
            refine (has_val Ha.out HX.out).mono ?_
            rintro e v20 ⟨rfl, g⟩
            replace Ha := Lib.hid (Ha.out.grew g)
            replace Hb := Lib.hid (Hb.out.grew g)
            replace gg := gg.trans g
            clear g
            go_wp2_with fail
            refine (has_val Hb.out HY.out).mono ?_
            rintro e v21 ⟨rfl, g⟩
            replace Ha := Lib.hid (Ha.out.grew g)
            replace Hb := Lib.hid (Hb.out.grew g)
            replace gg := gg.trans g
            clear g
            cases x <;> cases y
            all_goals
              go_wp2_with fail
              refine (union_val Ha.out Hb.out (by omega) (by omega) rfl).mono ?_
              rintro e v22 ⟨Ar1, nr1, cr1, rfl, hh, g⟩
              have br1 : nr1 ≤ 240 := by rw [← hh.1]; exact Lr1.out
              have Hr1 := Lib.hid hh
              clear hh
              replace Ha := Lib.hid (Ha.out.grew g)
              replace Hb := Lib.hid (Hb.out.grew g)
              replace gg := gg.trans g
              clear g
              go_wp2_with fail
              refine (has_val Hr1.out HU.out).mono ?_
              rintro e v23 ⟨rfl, g⟩
              replace Ha := Lib.hid (Ha.out.grew g)
              replace Hb := Lib.hid (Hb.out.grew g)
              replace Hr1 := Lib.hid (Hr1.out.grew g)
              replace gg := gg.trans g
              clear g
              go_wp2_with fail
              refine (meet_val Ha.out Hb.out (by omega) (by omega) rfl).mono ?_
              rintro e v24 ⟨Ar2, nr2, cr2, rfl, hh, g⟩
              have br2 : nr2 ≤ 240 := by rw [← hh.1]; exact Lr2.out
              have Hr2 := Lib.hid hh
              clear hh
              replace Ha := Lib.hid (Ha.out.grew g)
              replace Hb := Lib.hid (Hb.out.grew g)
              replace Hr1 := Lib.hid (Hr1.out.grew g)
              replace gg := gg.trans g
              clear g
              go_wp2_with fail
              refine (has_val Hr2.out HM.out).mono ?_
              rintro e v25 ⟨rfl, g⟩
              replace Ha := Lib.hid (Ha.out.grew g)
              replace Hb := Lib.hid (Hb.out.grew g)
              replace Hr1 := Lib.hid (Hr1.out.grew g)
              replace Hr2 := Lib.hid (Hr2.out.grew g)
              replace gg := gg.trans g
              clear g
              go_wp2_with fail
              refine (minus_val Ha.out Hb.out (by omega) (by omega) rfl).mono ?_
              rintro e v26 ⟨Ar3, nr3, cr3, rfl, hh, g⟩
              have br3 : nr3 ≤ 240 := by rw [← hh.1]; exact Lr3.out
              have Hr3 := Lib.hid hh
              clear hh
              replace Ha := Lib.hid (Ha.out.grew g)
              replace Hb := Lib.hid (Hb.out.grew g)
              replace Hr1 := Lib.hid (Hr1.out.grew g)
              replace Hr2 := Lib.hid (Hr2.out.grew g)
              replace gg := gg.trans g
              clear g
              go_wp2_with fail
              refine (has_val Hr3.out HI.out).mono ?_
              rintro e v27 ⟨rfl, g⟩
              replace Ha := Lib.hid (Ha.out.grew g)
              replace Hb := Lib.hid (Hb.out.grew g)
              replace Hr1 := Lib.hid (Hr1.out.grew g)
              replace Hr2 := Lib.hid (Hr2.out.grew g)
              replace Hr3 := Lib.hid (Hr3.out.grew g)
              replace gg := gg.trans g
              clear g
              go_wp2_with fail
              go_ret
              exact ⟨rfl, gg⟩
        | true =>
          have hfr := far_iff.1 hf
          by_cases q3 : p % 2 = 0
          · skip
            have HF := Lib.hid hf
            clear hf
            have u3 : (p % 2 == 0) = true := by rw [q3]; rfl
            clear q3
            go_upto_region 7 with (fail)
            rw [← hwa]
            clear hwa c1 c2
            replace Ha := Lib.hid (Ha.out.grew ga)
            replace Hb := Lib.hid (Hb.out.grew ga)
            replace gg := gg.trans ga
            clear ga
            go_wp2_with fail
            refine (far_val HF.out _).mono ?_
            rintro e v28 ⟨rfl, g⟩
            replace e1 := g.cell e1
            replace e2 := g.cell e2
            replace Ha := Lib.hid (Ha.out.grew g)
            replace Hb := Lib.hid (Hb.out.grew g)
            replace gg := gg.trans g
            clear g
            have qf := HF.out
            obtain ⟨x, hx⟩ : ∃ x, hasB a (s2 + d) = x := ⟨_, rfl⟩
            obtain ⟨y, hy⟩ : ∃ y, hasB b (s2 + d) = y := ⟨_, rfl⟩
            have HX := Lib.hid hx
            have HY := Lib.hid hy
            have HU : Hid (hasB (uni a b) (s2 + d) = (x || y)) := by unfold Hid; rw [uni_has, hx, hy]
            have HM : Hid (hasB (meet a b) (s2 + d) = (x && y)) := by unfold Hid; rw [meet_has, hx, hy]
            have HI : Hid (hasB (minus a b) (s2 + d) = (x && !y)) := by unfold Hid; rw [minus_has, hx, hy]
            clear hx hy
            go_wp2_with fail
            refine (has_val Ha.out HX.out).mono ?_
            rintro e v29 ⟨rfl, g⟩
            replace Ha := Lib.hid (Ha.out.grew g)
            replace Hb := Lib.hid (Hb.out.grew g)
            replace gg := gg.trans g
            clear g
            go_wp2_with fail
            refine (has_val Hb.out HY.out).mono ?_
            rintro e v30 ⟨rfl, g⟩
            replace Ha := Lib.hid (Ha.out.grew g)
            replace Hb := Lib.hid (Hb.out.grew g)
            replace gg := gg.trans g
            clear g
            cases x <;> cases y
            all_goals
              go_wp2_with fail
              refine (union_val Ha.out Hb.out (by omega) (by omega) rfl).mono ?_
              rintro e v31 ⟨Ar1, nr1, cr1, rfl, hh, g⟩
              have br1 : nr1 ≤ 240 := by rw [← hh.1]; exact Lr1.out
              have Hr1 := Lib.hid hh
              clear hh
              replace Ha := Lib.hid (Ha.out.grew g)
              replace Hb := Lib.hid (Hb.out.grew g)
              replace gg := gg.trans g
              clear g
              go_wp2_with fail
              refine (has_val Hr1.out HU.out).mono ?_
              rintro e v32 ⟨rfl, g⟩
              replace Ha := Lib.hid (Ha.out.grew g)
              replace Hb := Lib.hid (Hb.out.grew g)
              replace Hr1 := Lib.hid (Hr1.out.grew g)
              replace gg := gg.trans g
              clear g
              go_wp2_with fail
              refine (meet_val Ha.out Hb.out (by omega) (by omega) rfl).mono ?_
              rintro e v33 ⟨Ar2, nr2, cr2, rfl, hh, g⟩
              have br2 : nr2 ≤ 240 := by rw [← hh.1]; exact Lr2.out
              have Hr2 := Lib.hid hh
              clear hh
              replace Ha := Lib.hid (Ha.out.grew g)
              replace Hb := Lib.hid (Hb.out.grew g)
              replace Hr1 := Lib.hid (Hr1.out.grew g)
              replace gg := gg.trans g
              clear g
              go_wp2_with fail
              refine (has_val Hr2.out HM.out).mono ?_
              rintro e v34 ⟨rfl, g⟩
              replace Ha := Lib.hid (Ha.out.grew g)
              replace Hb := Lib.hid (Hb.out.grew g)
              replace Hr1 := Lib.hid (Hr1.out.grew g)
              replace Hr2 := Lib.hid (Hr2.out.grew g)
              replace gg := gg.trans g
              clear g
              go_wp2_with fail
              refine (minus_val Ha.out Hb.out (by omega) (by omega) rfl).mono ?_
              rintro e v35 ⟨Ar3, nr3, cr3, rfl, hh, g⟩
              have br3 : nr3 ≤ 240 := by rw [← hh.1]; exact Lr3.out
              have Hr3 := Lib.hid hh
              clear hh
              replace Ha := Lib.hid (Ha.out.grew g)
              replace Hb := Lib.hid (Hb.out.grew g)
              replace Hr1 := Lib.hid (Hr1.out.grew g)
              replace Hr2 := Lib.hid (Hr2.out.grew g)
              replace gg := gg.trans g
              clear g
              go_wp2_with fail
              refine (has_val Hr3.out HI.out).mono ?_
              rintro e v36 ⟨rfl, g⟩
              replace Ha := Lib.hid (Ha.out.grew g)
              replace Hb := Lib.hid (Hb.out.grew g)
              replace Hr1 := Lib.hid (Hr1.out.grew g)
              replace Hr2 := Lib.hid (Hr2.out.grew g)
              replace Hr3 := Lib.hid (Hr3.out.grew g)
              replace gg := gg.trans g
              clear g
              go_wp2_with fail
              go_ret
              exact ⟨rfl, gg⟩
          · skip
            have HF := Lib.hid hf
            clear hf
            have u3 : (p % 2 == 0) = false := beq_eq_false_iff_ne.2 q3
            clear q3
            go_upto_region 7 with (fail)
            rw [← hwa]
            clear hwa c1 c2
            replace Ha := Lib.hid (Ha.out.grew ga)
            replace Hb := Lib.hid (Hb.out.grew ga)
            replace gg := gg.trans ga
            clear ga
            go_wp2_with fail
            refine (far_val HF.out _).mono ?_
            rintro e v37 ⟨rfl, g⟩
            replace e1 := g.cell e1
            replace e2 := g.cell e2
            replace Ha := Lib.hid (Ha.out.grew g)
            replace Hb := Lib.hid (Hb.out.grew g)
            replace gg := gg.trans g
            clear g
            have qf := HF.out
            obtain ⟨x, hx⟩ : ∃ x, hasB a (s1 + d) = x := ⟨_, rfl⟩
            obtain ⟨y, hy⟩ : ∃ y, hasB b (s1 + d) = y := ⟨_, rfl⟩
            have HX := Lib.hid hx
            have HY := Lib.hid hy
            have HU : Hid (hasB (uni a b) (s1 + d) = (x || y)) := by unfold Hid; rw [uni_has, hx, hy]
            have HM : Hid (hasB (meet a b) (s1 + d) = (x && y)) := by unfold Hid; rw [meet_has, hx, hy]
            have HI : Hid (hasB (minus a b) (s1 + d) = (x && !y)) := by unfold Hid; rw [minus_has, hx, hy]
            clear hx hy
            go_wp2_with fail
            refine (has_val Ha.out HX.out).mono ?_
            rintro e v38 ⟨rfl, g⟩
            replace Ha := Lib.hid (Ha.out.grew g)
            replace Hb := Lib.hid (Hb.out.grew g)
            replace gg := gg.trans g
            clear g
            go_wp2_with fail
            refine (has_val Hb.out HY.out).mono ?_
            rintro e v39 ⟨rfl, g⟩
            replace Ha := Lib.hid (Ha.out.grew g)
            replace Hb := Lib.hid (Hb.out.grew g)
            replace gg := gg.trans g
            clear g
            cases x <;> cases y
            all_goals
              go_wp2_with fail
              refine (union_val Ha.out Hb.out (by omega) (by omega) rfl).mono ?_
              rintro e v40 ⟨Ar1, nr1, cr1, rfl, hh, g⟩
              have br1 : nr1 ≤ 240 := by rw [← hh.1]; exact Lr1.out
              have Hr1 := Lib.hid hh
              clear hh
              replace Ha := Lib.hid (Ha.out.grew g)
              replace Hb := Lib.hid (Hb.out.grew g)
              replace gg := gg.trans g
              clear g
              go_wp2_with fail
              refine (has_val Hr1.out HU.out).mono ?_
              rintro e v41 ⟨rfl, g⟩
              replace Ha := Lib.hid (Ha.out.grew g)
              replace Hb := Lib.hid (Hb.out.grew g)
              replace Hr1 := Lib.hid (Hr1.out.grew g)
              replace gg := gg.trans g
              clear g
              go_wp2_with fail
              refine (meet_val Ha.out Hb.out (by omega) (by omega) rfl).mono ?_
              rintro e v42 ⟨Ar2, nr2, cr2, rfl, hh, g⟩
              have br2 : nr2 ≤ 240 := by rw [← hh.1]; exact Lr2.out
              have Hr2 := Lib.hid hh
              clear hh
              replace Ha := Lib.hid (Ha.out.grew g)
              replace Hb := Lib.hid (Hb.out.grew g)
              replace Hr1 := Lib.hid (Hr1.out.grew g)
              replace gg := gg.trans g
              clear g
              go_wp2_with fail
              refine (has_val Hr2.out HM.out).mono ?_
              rintro e v43 ⟨rfl, g⟩
              replace Ha := Lib.hid (Ha.out.grew g)
              replace Hb := Lib.hid (Hb.out.grew g)
              replace Hr1 := Lib.hid (Hr1.out.grew g)
              replace Hr2 := Lib.hid (Hr2.out.grew g)
              replace gg := gg.trans g
              clear g
              go_wp2_with fail
              refine (minus_val Ha.out Hb.out (by omega) (by omega) rfl).mono ?_
              rintro e v44 ⟨Ar3, nr3, cr3, rfl, hh, g⟩
              have br3 : nr3 ≤ 240 := by rw [← hh.1]; exact Lr3.out
              have Hr3 := Lib.hid hh
              clear hh
              replace Ha := Lib.hid (Ha.out.grew g)
              replace Hb := Lib.hid (Hb.out.grew g)
              replace Hr1 := Lib.hid (Hr1.out.grew g)
              replace Hr2 := Lib.hid (Hr2.out.grew g)
              replace gg := gg.trans g
              clear g
              go_wp2_with fail
              refine (has_val Hr3.out HI.out).mono ?_
              rintro e v45 ⟨rfl, g⟩
              replace Ha := Lib.hid (Ha.out.grew g)
              replace Hb := Lib.hid (Hb.out.grew g)
              replace Hr1 := Lib.hid (Hr1.out.grew g)
              replace Hr2 := Lib.hid (Hr2.out.grew g)
              replace Hr3 := Lib.hid (Hr3.out.grew g)
              replace gg := gg.trans g
              clear g
              go_wp2_with fail
              go_ret
              exact ⟨rfl, gg⟩
      · skip
        have u2 : decide (d < 2) = false := decide_eq_false q2
        go_upto_region 7 with (fail)
        rw [← hwa]
        clear hwa c1 c2
        replace Ha := Lib.hid (Ha.out.grew ga)
        replace Hb := Lib.hid (Hb.out.grew ga)
        replace gg := gg.trans ga
        clear ga
        obtain ⟨x, hx⟩ : ∃ x, hasB a n = x := ⟨_, rfl⟩
        obtain ⟨y, hy⟩ : ∃ y, hasB b n = y := ⟨_, rfl⟩
        have HX := Lib.hid hx
        have HY := Lib.hid hy
        have HU : Hid (hasB (uni a b) n = (x || y)) := by unfold Hid; rw [uni_has, hx, hy]
        have HM : Hid (hasB (meet a b) n = (x && y)) := by unfold Hid; rw [meet_has, hx, hy]
        have HI : Hid (hasB (minus a b) n = (x && !y)) := by unfold Hid; rw [minus_has, hx, hy]
        clear hx hy
        go_wp2_with fail
        refine (has_val Ha.out HX.out).mono ?_
        rintro e v46 ⟨rfl, g⟩
        replace Ha := Lib.hid (Ha.out.grew g)
        replace Hb := Lib.hid (Hb.out.grew g)
        replace gg := gg.trans g
        clear g
        go_wp2_with fail
        refine (has_val Hb.out HY.out).mono ?_
        rintro e v47 ⟨rfl, g⟩
        replace Ha := Lib.hid (Ha.out.grew g)
        replace Hb := Lib.hid (Hb.out.grew g)
        replace gg := gg.trans g
        clear g
        cases x <;> cases y
        all_goals
          go_wp2_with fail
          refine (union_val Ha.out Hb.out (by omega) (by omega) rfl).mono ?_
          rintro e v48 ⟨Ar1, nr1, cr1, rfl, hh, g⟩
          have br1 : nr1 ≤ 240 := by rw [← hh.1]; exact Lr1.out
          have Hr1 := Lib.hid hh
          clear hh
          replace Ha := Lib.hid (Ha.out.grew g)
          replace Hb := Lib.hid (Hb.out.grew g)
          replace gg := gg.trans g
          clear g
          go_wp2_with fail
          refine (has_val Hr1.out HU.out).mono ?_
          rintro e v49 ⟨rfl, g⟩
          replace Ha := Lib.hid (Ha.out.grew g)
          replace Hb := Lib.hid (Hb.out.grew g)
          replace Hr1 := Lib.hid (Hr1.out.grew g)
          replace gg := gg.trans g
          clear g
          go_wp2_with fail
          refine (meet_val Ha.out Hb.out (by omega) (by omega) rfl).mono ?_
          rintro e v50 ⟨Ar2, nr2, cr2, rfl, hh, g⟩
          have br2 : nr2 ≤ 240 := by rw [← hh.1]; exact Lr2.out
          have Hr2 := Lib.hid hh
          clear hh
          replace Ha := Lib.hid (Ha.out.grew g)
          replace Hb := Lib.hid (Hb.out.grew g)
          replace Hr1 := Lib.hid (Hr1.out.grew g)
          replace gg := gg.trans g
          clear g
          go_wp2_with fail
          refine (has_val Hr2.out HM.out).mono ?_
          rintro e v51 ⟨rfl, g⟩
          replace Ha := Lib.hid (Ha.out.grew g)
          replace Hb := Lib.hid (Hb.out.grew g)
          replace Hr1 := Lib.hid (Hr1.out.grew g)
          replace Hr2 := Lib.hid (Hr2.out.grew g)
          replace gg := gg.trans g
          clear g
          go_wp2_with fail
          refine (minus_val Ha.out Hb.out (by omega) (by omega) rfl).mono ?_
          rintro e v52 ⟨Ar3, nr3, cr3, rfl, hh, g⟩
          have br3 : nr3 ≤ 240 := by rw [← hh.1]; exact Lr3.out
          have Hr3 := Lib.hid hh
          clear hh
          replace Ha := Lib.hid (Ha.out.grew g)
          replace Hb := Lib.hid (Hb.out.grew g)
          replace Hr1 := Lib.hid (Hr1.out.grew g)
          replace Hr2 := Lib.hid (Hr2.out.grew g)
          replace gg := gg.trans g
          clear g
          go_wp2_with fail
          refine (has_val Hr3.out HI.out).mono ?_
          rintro e v53 ⟨rfl, g⟩
          replace Ha := Lib.hid (Ha.out.grew g)
          replace Hb := Lib.hid (Hb.out.grew g)
          replace Hr1 := Lib.hid (Hr1.out.grew g)
          replace Hr2 := Lib.hid (Hr2.out.grew g)
          replace Hr3 := Lib.hid (Hr3.out.grew g)
          replace gg := gg.trans g
          clear g
          go_wp2_with fail
          go_ret
          exact ⟨rfl, gg⟩
    · skip
      have u1 : decide (-2 < d) = false := decide_eq_false q1
      go_upto_region 7 with (fail)
      rw [← hwa]
      clear hwa c1 c2
      replace Ha := Lib.hid (Ha.out.grew ga)
      replace Hb := Lib.hid (Hb.out.grew ga)
      replace gg := gg.trans ga
      clear ga
      obtain ⟨x, hx⟩ : ∃ x, hasB a n = x := ⟨_, rfl⟩
      obtain ⟨y, hy⟩ : ∃ y, hasB b n = y := ⟨_, rfl⟩
      have HX := Lib.hid hx
      have HY := Lib.hid hy
      have HU : Hid (hasB (uni a b) n = (x || y)) := by unfold Hid; rw [uni_has, hx, hy]
      have HM : Hid (hasB (meet a b) n = (x && y)) := by unfold Hid; rw [meet_has, hx, hy]
      have HI : Hid (hasB (minus a b) n = (x && !y)) := by unfold Hid; rw [minus_has, hx, hy]
      clear hx hy
      go_wp2_with fail
      refine (has_val Ha.out HX.out).mono ?_
      rintro e v54 ⟨rfl, g⟩
      replace Ha := Lib.hid (Ha.out.grew g)
      replace Hb := Lib.hid (Hb.out.grew g)
      replace gg := gg.trans g
      clear g
      go_wp2_with fail
      refine (has_val Hb.out HY.out).mono ?_
      rintro e v55 ⟨rfl, g⟩
      replace Ha := Lib.hid (Ha.out.grew g)
      replace Hb := Lib.hid (Hb.out.grew g)
      replace gg := gg.trans g
      clear g
      cases x <;> cases y
      all_goals
        go_wp2_with fail
        refine (union_val Ha.out Hb.out (by omega) (by omega) rfl).mono ?_
        rintro e v56 ⟨Ar1, nr1, cr1, rfl, hh, g⟩
        have br1 : nr1 ≤ 240 := by rw [← hh.1]; exact Lr1.out
        have Hr1 := Lib.hid hh
        clear hh
        replace Ha := Lib.hid (Ha.out.grew g)
        replace Hb := Lib.hid (Hb.out.grew g)
        replace gg := gg.trans g
        clear g
        go_wp2_with fail
        refine (has_val Hr1.out HU.out).mono ?_
        rintro e v57 ⟨rfl, g⟩
        replace Ha := Lib.hid (Ha.out.grew g)
        replace Hb := Lib.hid (Hb.out.grew g)
        replace Hr1 := Lib.hid (Hr1.out.grew g)
        replace gg := gg.trans g
        clear g
        go_wp2_with fail
        refine (meet_val Ha.out Hb.out (by omega) (by omega) rfl).mono ?_
        rintro e v58 ⟨Ar2, nr2, cr2, rfl, hh, g⟩
        have br2 : nr2 ≤ 240 := by rw [← hh.1]; exact Lr2.out
        have Hr2 := Lib.hid hh
        clear hh
        replace Ha := Lib.hid (Ha.out.grew g)
        replace Hb := Lib.hid (Hb.out.grew g)
        replace Hr1 := Lib.hid (Hr1.out.grew g)
        replace gg := gg.trans g
        clear g
        go_wp2_with fail
        refine (has_val Hr2.out HM.out).mono ?_
        rintro e v59 ⟨rfl, g⟩
        replace Ha := Lib.hid (Ha.out.grew g)
        replace Hb := Lib.hid (Hb.out.grew g)
        replace Hr1 := Lib.hid (Hr1.out.grew g)
        replace Hr2 := Lib.hid (Hr2.out.grew g)
        replace gg := gg.trans g
        clear g
        go_wp2_with fail
        refine (minus_val Ha.out Hb.out (by omega) (by omega) rfl).mono ?_
        rintro e v60 ⟨Ar3, nr3, cr3, rfl, hh, g⟩
        have br3 : nr3 ≤ 240 := by rw [← hh.1]; exact Lr3.out
        have Hr3 := Lib.hid hh
        clear hh
        replace Ha := Lib.hid (Ha.out.grew g)
        replace Hb := Lib.hid (Hb.out.grew g)
        replace Hr1 := Lib.hid (Hr1.out.grew g)
        replace Hr2 := Lib.hid (Hr2.out.grew g)
        replace gg := gg.trans g
        clear g
        go_wp2_with fail
        refine (has_val Hr3.out HI.out).mono ?_
        rintro e v61 ⟨rfl, g⟩
        replace Ha := Lib.hid (Ha.out.grew g)
        replace Hb := Lib.hid (Hb.out.grew g)
        replace Hr1 := Lib.hid (Hr1.out.grew g)
        replace Hr2 := Lib.hid (Hr2.out.grew g)
        replace Hr3 := Lib.hid (Hr3.out.grew g)
        replace gg := gg.trans g
        clear g
        go_wp2_with fail
        go_ret
        exact ⟨rfl, gg⟩
theorem mem_law (Aa : Option Addr) (na ca : Nat) (a : List Sp) (Ab : Option Addr) (nb cb : Nat) (b : List Sp) (w : World) (ha : Spans w Aa na ca a) (hb : Spans w Ab nb cb b) (n p d : Int) (p0 : 0 ≤ p) (p1 : p ≤ 255) (d0 : -128 ≤ d) (d1 : d ≤ 127) :
    Calls Try.prog 5 #[.slice Aa na ca, .slice Ab nb cb, .int .i64 n, .int .u8 p, .int .i8 d] w fun e w' => e = .returned (.bool true) ∧ Grew w w' := by
  cases hs : shortB [(Aa, na, ca), (Ab, nb, cb)] with
  | false => exact mem_skip Aa na ca a Ab nb cb b w ha hb n p d p0 p1 d0 d1 hs
  | true =>
    unfold shortB at hs
    simp at hs
    exact mem_main Aa na ca a Ab nb cb b w ha hb n p d p0 p1 d0 d1 (by omega) (by omega)
end Go.Proofs.Ytngbkpplkkpagaa
