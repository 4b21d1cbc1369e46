/-
  The law SpanShift, walked.
-/
import Derived.Test.YtngbkpplkkpagaaFar
namespace Go.Proofs.Ytngbkpplkkpagaa
open Go.RowKit Go.Proofs WageMem WageSpan

def NearOne (s : Sp) : Prop := -1125899906842624 ≤ s.1 ∧ s.1 ≤ 1125899906842624 ∧ -1125899906842624 ≤ s.2 ∧ s.2 ≤ 1125899906842624
theorem near_snoc {l : List Sp} {k : Nat} {s : Sp} (h : Near (l.take k)) (hs : l[k]? = some s) (hn : NearOne s) : Near (l.take (k + 1)) := by
  intro x hx
  rw [List.take_add_one, hs] at hx
  rcases List.mem_append.1 hx with hx | hx
  · exact h x hx
  · simp at hx; subst hx; exact hn
theorem near_cases (a b : Int) : (decide (a < -1125899906842624) = true) ∨ (decide (a < -1125899906842624) = false ∧ decide (1125899906842624 < a) = true) ∨ (decide (a < -1125899906842624) = false ∧ decide (1125899906842624 < a) = false ∧ decide (b < -1125899906842624) = true) ∨
    (decide (a < -1125899906842624) = false ∧ decide (1125899906842624 < a) = false ∧ decide (b < -1125899906842624) = false ∧ decide (1125899906842624 < b) = true) ∨ (decide (a < -1125899906842624) = false ∧ decide (1125899906842624 < a) = false ∧ decide (b < -1125899906842624) = false ∧ decide (1125899906842624 < b) = false ∧ NearOne (a, b)) := by
  by_cases h1 : a < -1125899906842624
  · exact .inl (decide_eq_true h1)
  · by_cases h2 : 1125899906842624 < a
    · exact .inr (.inl ⟨decide_eq_false h1, decide_eq_true h2⟩)
    · by_cases h3 : b < -1125899906842624
      · exact .inr (.inr (.inl ⟨decide_eq_false h1, decide_eq_false h2, decide_eq_true h3⟩))
      · by_cases h4 : 1125899906842624 < b
        · exact .inr (.inr (.inr (.inl ⟨decide_eq_false h1, decide_eq_false h2, decide_eq_false h3, decide_eq_true h4⟩)))
        · exact .inr (.inr (.inr (.inr ⟨decide_eq_false h1, decide_eq_false h2, decide_eq_false h3, decide_eq_false h4, by unfold NearOne; simp only; omega⟩)))
theorem valid_shift {a : List Sp} (h : Near a) {k : Int} (k0 : -1125899906842624 ≤ k) (k1 : k ≤ 1125899906842624) : decide (nrm (shift a k) = shift a k) = decide (nrm a = a) := by
  rw [decide_eq_decide, nrm_iff, nrm_iff]
  exact ⟨shift_unnormal h, fun hn => shift_normal h hn k0 k1⟩
theorem shift_len (a : List Sp) (k : Int) : (shift a k).length = a.length := by unfold shift; rw [List.length_map]
set_option maxRecDepth 100000 in
set_option maxHeartbeats 16000000 in
theorem shift_skip (Aa : Option Addr) (na ca : Nat) (a : List Sp) (Ab : Option Addr) (nb cb : Nat) (b : List Sp) (w : World) (_ha : Spans w Aa na ca a) (_hb : Spans w Ab nb cb b) (n : Int) (hs : shortB [(Aa, na, ca), (Ab, nb, cb)] = false) :
    Calls Try.prog 8 #[.slice Aa na ca, .slice Ab nb cb, .int .i64 n] w fun e w' => e = .returned (.bool true) ∧ Grew w w' := by
  have gg : Grew w w := Grew.refl w
  have HSH := Lib.hid hs
  clear hs
  go_enter Try.func8, Try.ntmps8
  go_wp2_with fail
  refine (head_true _).mono ?_
  rintro e v1 ⟨rfl, g⟩
  replace gg := gg.trans g
  clear g
  go_wp2_with fail
  refine (short_val [(Aa, na, ca), (Ab, nb, cb)] rfl rfl (by simp) HSH.out).mono ?_
  rintro e v2 ⟨rfl, g⟩
  replace gg := gg.trans g
  clear g
  go_wp2_with fail
  go_ret
  exact ⟨rfl, gg⟩
set_option maxRecDepth 100000 in
set_option maxHeartbeats 16000000 in
theorem shift_s1 (Aa : Option Addr) (na ca : Nat) (a : List Sp) (Ab : Option Addr) (nb cb : Nat) (b : List Sp) (w : World) (_ha : Spans w Aa na ca a) (_hb : Spans w Ab nb cb b) (n : Int) (ba : na ≤ 60) (bb : nb ≤ 60) (hn : n < -1125899906842624) :
    Calls Try.prog 8 #[.slice Aa na ca, .slice Ab nb cb, .int .i64 n] w fun e w' => e = .returned (.bool true) ∧ Grew w w' := by
  have gg : Grew w w := Grew.refl w
  have HSH : Hid (shortB [(Aa, na, ca), (Ab, nb, cb)] = true) := by unfold Hid shortB; simp [ba, bb]
  have t1 : decide (n < -1125899906842624) = true := decide_eq_true hn
  clear hn
  go_enter Try.func8, Try.ntmps8
  go_wp2_with fail
  refine (head_true _).mono ?_
  rintro e v1 ⟨rfl, g⟩
  replace gg := gg.trans g
  clear g
  go_wp2_with fail
  refine (short_val [(Aa, na, ca), (Ab, nb, cb)] rfl rfl (by simp) HSH.out).mono ?_
  rintro e v2 ⟨rfl, g⟩
  replace gg := gg.trans g
  clear g
  go_wp2_with fail
  go_ret
  exact ⟨rfl, gg⟩
set_option maxRecDepth 100000 in
set_option maxHeartbeats 16000000 in
theorem shift_s2 (Aa : Option Addr) (na ca : Nat) (a : List Sp) (Ab : Option Addr) (nb cb : Nat) (b : List Sp) (w : World) (_ha : Spans w Aa na ca a) (_hb : Spans w Ab nb cb b) (n : Int) (ba : na ≤ 60) (bb : nb ≤ 60) (hn : 1125899906842624 < n) :
    Calls Try.prog 8 #[.slice Aa na ca, .slice Ab nb cb, .int .i64 n] w fun e w' => e = .returned (.bool true) ∧ Grew w w' := by
  have gg : Grew w w := Grew.refl w
  have HSH : Hid (shortB [(Aa, na, ca), (Ab, nb, cb)] = true) := by unfold Hid shortB; simp [ba, bb]
  have t1 : decide (n < -1125899906842624) = false := decide_eq_false (by omega)
  have t2 : decide (1125899906842624 < n) = true := decide_eq_true hn
  clear hn
  go_enter Try.func8, Try.ntmps8
  go_wp2_with fail
  refine (head_true _).mono ?_
  rintro e v1 ⟨rfl, g⟩
  replace gg := gg.trans g
  clear g
  go_wp2_with fail
  refine (short_val [(Aa, na, ca), (Ab, nb, cb)] rfl rfl (by simp) HSH.out).mono ?_
  rintro e v2 ⟨rfl, g⟩
  replace gg := gg.trans g
  clear g
  go_wp2_with fail
  go_ret
  exact ⟨rfl, gg⟩
set_option maxRecDepth 100000 in
set_option maxHeartbeats 16000000 in
theorem shift_main (Aa : Option Addr) (na ca : Nat) (a : List Sp) (Ab : Option Addr) (nb cb : Nat) (b : List Sp) (w : World) (ha : Spans w Aa na ca a) (hb : Spans w Ab nb cb b) (n : Int) (ba : na ≤ 60) (bb : nb ≤ 60) (m0 : -1125899906842624 ≤ n) (m1 : n ≤ 1125899906842624) :
    Calls Try.prog 8 #[.slice Aa na ca, .slice Ab nb cb, .int .i64 n] w fun e w' => e = .returned (.bool true) ∧ Grew w w' := by
  have gg : Grew w w := Grew.refl w
  have Ha := Lib.hid ha
  have La : Hid (a.length ≤ 60) := by unfold Hid; rw [ha.1]; exact ba
  have Hb := Lib.hid hb
  have Lb : Hid (b.length ≤ 60) := by unfold Hid; rw [hb.1]; exact bb
  have HSH : Hid (shortB [(Aa, na, ca), (Ab, nb, cb)] = true) := by unfold Hid shortB; simp [ba, bb]
  obtain ⟨i0, hi, hz0, hz1, hz2⟩ := info_parts info33
  have IN := Lib.hid (in64_append ha.2.2 hb.2.2)
  have t1 : decide (n < -1125899906842624) = false := decide_eq_false (by omega)
  have t2 : decide (1125899906842624 < n) = false := decide_eq_false (by omega)
  clear ha hb
  go_enter Try.func8, Try.ntmps8
  go_wp2_with fail
  refine (head_true _).mono ?_
  rintro e v1 ⟨rfl, g⟩
  replace Ha := Lib.hid (Ha.out.grew g)
  replace Hb := Lib.hid (Hb.out.grew g)
  replace gg := gg.trans g
  clear g
  go_wp2_with fail
  refine (short_val [(Aa, na, ca), (Ab, nb, cb)] rfl rfl (by simp) HSH.out).mono ?_
  rintro e v2 ⟨rfl, g⟩
  replace Ha := Lib.hid (Ha.out.grew g)
  replace Hb := Lib.hid (Hb.out.grew g)
  replace gg := gg.trans g
  clear g
  have hsz : na + nb ≤ 120 := by omega
  have hown : (v2.alloc (.cells #[] 33)).ownsRow v2.heap.size 33 2 (.slice (some ⟨v2.heap.size, 0, none⟩) 0 0) 0 [] := World.ownsRow_made v2 #[] 0 (Nat.le_refl _) (Nat.zero_le _) rfl
  have HOW := Lib.hid hown
  clear hown
  go_wp2_with (first
    | (at_builtin; refine wpList_append_sl _ rfl (.tmp 28) (.tmp 29) 22 rfl v2.heap.size 33 i0 (.agg #[.int .i64 0, .int .i64 0]) 2 16 Try.underlying22 hi hz0 hz1 hz2 rfl (by decide) (.slice (some ⟨v2.heap.size, 0, none⟩) 0 0) 0 [] rfl HOW.out Aa na ca (flat a) rfl (Ha.out.2.1.grew ((Grew.refl v2).alloc _)) (flat_one _) (by unfold maxLen; omega) (by omega) (by simp) ?_; intro v3 w3 own3 hg3 hat3; rw [Nat.zero_add, List.nil_append] at own3; obtain ⟨A3, c3, rfl⟩ := own_form own3; have gr3 : Grew v2 w3 := ((Grew.refl v2).alloc _).grown hg3 (by simp [Value.ownBlock]))
    | (at_builtin; refine wpList_append_sl _ rfl (.tmp 30) (.tmp 31) 22 rfl v2.heap.size 33 i0 (.agg #[.int .i64 0, .int .i64 0]) 2 16 Try.underlying22 hi hz0 hz1 hz2 rfl (by decide) _ na _ rfl own3 Ab nb cb (flat b) rfl (Hb.out.2.1.grew gr3) (flat_one _) (by unfold maxLen; omega) (by omega) gr3.le ?_; intro v4 w4 own4 hg4 hat4; obtain ⟨m, hm⟩ : ∃ m, na + nb = m := ⟨_, rfl⟩; rw [hm] at own4; obtain ⟨A4, c4, rfl⟩ := own_form own4; have HMM := Lib.hid hm; clear hm))
  have gr4 : Grew v2 w4 := gr3.grown hg4 (fun q hq => (own3.lt q hq).1)
  rw [← flat_append] at own4
  have hm := HMM.out
  have hall : Spans w4 A4 m c4 (a ++ b) := Spans.own (by rw [List.length_append, Ha.out.1, Hb.out.1]; omega) IN.out own4
  have hm2 : m ≤ 120 := by omega
  have HALL := Lib.hid hall
  clear own4 hg4 hat4 hall own3 hg3 hat3 gr3 HOW hm
  replace Ha := Lib.hid (Ha.out.grew gr4)
  replace Hb := Lib.hid (Hb.out.grew gr4)
  replace gg := gg.trans gr4
  clear gr4
  go_loopw [34] (fun i wr => ∃ j : Nat, j ≤ m ∧ i = .int .i64 j ∧ Hid (Near ((a ++ b).take j)) ∧ Grew w4 wr) (fun i _ => m - (intOf i).toNat)
  case atStart => exact ⟨0, Nat.zero_le _, rfl, fun s hs => by simp at hs, Grew.refl _⟩
  case round =>
    obtain ⟨j, hj, rfl, HN, hg⟩ := hrel
    by_cases hlt : j < m
    · obtain ⟨bb, oo, s, rfl, hs, c1, c2, b1, b2⟩ := (HALL.out.grew hg).at_ hlt
      obtain ⟨s1, s2⟩ := s
      simp only at c1 c2 b1 b2
      have HSS := Lib.hid hs
      have j0 : (0 : Int) ≤ (j : Int) := by omega
      have j1 : (j : Int) < (m : Int) := by omega
      clear hs
      rcases near_cases s1 s2 with q1 | ⟨q1, q2⟩ | ⟨q1, q2, q3⟩ | ⟨q1, q2, q3, q4⟩ | ⟨q1, q2, q3, q4, q5⟩
      · go_wp2_with fail
        go_ret
        exact ⟨rfl, (gg.trans hg).alloc _⟩
      · go_wp2_with fail
        go_ret
        exact ⟨rfl, (gg.trans hg).alloc _⟩
      · go_wp2_with fail
        go_ret
        exact ⟨rfl, (gg.trans hg).alloc _⟩
      · go_wp2_with fail
        go_ret
        exact ⟨rfl, (gg.trans hg).alloc _⟩
      · have HN2 : Hid (Near ((a ++ b).take (j + 1))) := near_snoc HN.out HSS.out q5
        clear q5
        go_wp2_with fail
        go_roundw
        case rel => exact ⟨j + 1, by omega, by go_num, HN2, hg.alloc _⟩
        case measure => simp [intOf]; omega
    · have hnear : Near (a ++ b) := by
        have := HN.out
        rw [List.take_of_length_le (by rw [HALL.out.1]; omega)] at this
        exact this
      have hna : Near a := fun s hs => hnear s (List.mem_append_left _ hs)
      have hnb : Near b := fun s hs => hnear s (List.mem_append_right _ hs)
      have NA := Lib.hid hna
      have NB := Lib.hid hnb
      have HZ : Hid (sizeS (nrm (shift a n)) = sizeS (nrm a)) := by unfold Hid; rw [nrm_shift hna m0 m1, size_shift]
      have HVV := Lib.hid (valid_shift hna m0 m1)
      have E1 : Hid (uni (shift a n) (shift b n) = shift (uni a b) n) := nf_shift rfl hna hnb m0 m1
      have E2 : Hid (meet (shift a n) (shift b n) = shift (meet a b) n) := nf_shift rfl hna hnb m0 m1
      have E3 : Hid (minus (shift a n) (shift b n) = shift (minus a b) n) := nf_shift rfl hna hnb m0 m1
      have N1 : Hid (Near (uni a b)) := nf_near orB hna hnb
      have N2 : Hid (Near (meet a b)) := nf_near andB hna hnb
      have N3 : Hid (Near (minus a b)) := nf_near butB hna hnb
      obtain ⟨zz, hzz⟩ : ∃ z, sizeS (nrm a) = z := ⟨_, rfl⟩
      obtain ⟨vv, hvv⟩ : ∃ v, decide (nrm a = a) = v := ⟨_, rfl⟩
      rw [hzz] at HZ
      rw [hvv] at HVV
      have HZA := Lib.hid hzz
      have HVA := Lib.hid hvv
      have Lx1 : Hid ((shift a n).length ≤ 60) := by unfold Hid; rw [shift_len]; exact La.out
      have Lx2 : Hid ((shift b n).length ≤ 60) := by unfold Hid; rw [shift_len]; exact Lb.out
      have Lr1 : Hid ((uni (shift a n) (shift b n)).length ≤ 240) := by have := nf_len orB (shift a n) (shift b n); have h1 := Lx1.out; have h2 := Lx2.out; show (nf orB (shift a n) (shift b n)).length ≤ 240; omega
      have Lr2 : Hid ((uni a b).length ≤ 240) := by have := nf_len orB a b; have h1 := La.out; have h2 := Lb.out; show (nf orB a b).length ≤ 240; omega
      have Lr3 : Hid ((shift (uni a b) n).length ≤ 240) := by unfold Hid; rw [shift_len]; exact Lr2.out
      have Lr4 : Hid ((meet (shift a n) (shift b n)).length ≤ 240) := by have := nf_len andB (shift a n) (shift b n); have h1 := Lx1.out; have h2 := Lx2.out; show (nf andB (shift a n) (shift b n)).length ≤ 240; omega
      have Lr5 : Hid ((meet a b).length ≤ 240) := by have := nf_len andB a b; have h1 := La.out; have h2 := Lb.out; show (nf andB a b).length ≤ 240; omega
      have Lr6 : Hid ((shift (meet a b) n).length ≤ 240) := by unfold Hid; rw [shift_len]; exact Lr5.out
      have Lr7 : Hid ((minus (shift a n) (shift b n)).length ≤ 240) := by have := nf_len butB (shift a n) (shift b n); have h1 := Lx1.out; have h2 := Lx2.out; show (nf butB (shift a n) (shift b n)).length ≤ 240; omega
      have Lr8 : Hid ((minus a b).length ≤ 240) := by have := nf_len butB a b; have h1 := La.out; have h2 := Lb.out; show (nf butB a b).length ≤ 240; omega
      have Lr9 : Hid ((shift (minus a b) n).length ≤ 240) := by unfold Hid; rw [shift_len]; exact Lr8.out
      have u1 : (zz == zz) = true := by simp
      have u2 : (vv == vv) = true := by simp
      clear hnear hna hnb hzz hvv HALL HN
      replace Ha := Lib.hid (Ha.out.grew hg)
      replace Hb := Lib.hid (Hb.out.grew hg)
      replace gg := gg.trans hg
      clear hg
      go_wp2_with fail
      refine (moved_val Ha.out (by omega) NA.out m0 m1 rfl).mono ?_
      rintro e v21 ⟨Ax1, nx1, cx1, rfl, hh, g⟩
      have bx1 : nx1 ≤ 60 := by rw [← hh.1]; exact Lx1.out
      have Hx1 := Lib.hid hh
      clear hh
      replace Ha := Lib.hid (Ha.out.grew g)
      replace Hb := Lib.hid (Hb.out.grew g)
      replace gg := gg.trans g
      clear g
      go_wp2_with fail
      refine (moved_val Hb.out (by omega) NB.out m0 m1 rfl).mono ?_
      rintro e v22 ⟨Ax2, nx2, cx2, rfl, hh, g⟩
      have bx2 : nx2 ≤ 60 := by rw [← hh.1]; exact Lx2.out
      have Hx2 := Lib.hid hh
      clear hh
      replace Ha := Lib.hid (Ha.out.grew g)
      replace Hb := Lib.hid (Hb.out.grew g)
      replace Hx1 := Lib.hid (Hx1.out.grew g)
      replace gg := gg.trans g
      clear g
      go_wp2_with fail
      refine (union_val Hx1.out Hx2.out (by omega) (by omega) rfl).mono ?_
      rintro e v23 ⟨Ar1, nr1, cr1, rfl, hh, g⟩
      have br1 : nr1 ≤ 240 := by rw [← hh.1]; exact Lr1.out
      have Hr1 := Lib.hid hh
      clear hh
      replace Ha := Lib.hid (Ha.out.grew g)
      replace Hb := Lib.hid (Hb.out.grew g)
      replace Hx1 := Lib.hid (Hx1.out.grew g)
      replace Hx2 := Lib.hid (Hx2.out.grew g)
      replace gg := gg.trans g
      clear g
      go_wp2_with fail
      refine (union_val Ha.out Hb.out (by omega) (by omega) rfl).mono ?_
      rintro e v24 ⟨Ar2, nr2, cr2, rfl, hh, g⟩
      have br2 : nr2 ≤ 240 := by rw [← hh.1]; exact Lr2.out
      have Hr2 := Lib.hid hh
      clear hh
      replace Ha := Lib.hid (Ha.out.grew g)
      replace Hb := Lib.hid (Hb.out.grew g)
      replace Hx1 := Lib.hid (Hx1.out.grew g)
      replace Hx2 := Lib.hid (Hx2.out.grew g)
      replace Hr1 := Lib.hid (Hr1.out.grew g)
      replace gg := gg.trans g
      clear g
      go_wp2_with fail
      refine (moved_val Hr2.out (by omega) N1.out m0 m1 rfl).mono ?_
      rintro e v25 ⟨Ar3, nr3, cr3, rfl, hh, g⟩
      have br3 : nr3 ≤ 240 := by rw [← hh.1]; exact Lr3.out
      have Hr3 := Lib.hid hh
      clear hh
      replace Ha := Lib.hid (Ha.out.grew g)
      replace Hb := Lib.hid (Hb.out.grew g)
      replace Hx1 := Lib.hid (Hx1.out.grew g)
      replace Hx2 := Lib.hid (Hx2.out.grew g)
      replace Hr1 := Lib.hid (Hr1.out.grew g)
      replace Hr2 := Lib.hid (Hr2.out.grew g)
      replace gg := gg.trans g
      clear g
      go_wp2_with fail
      refine (same_val Hr1.out Hr3.out (decide_eq_true E1.out)).mono ?_
      rintro e v26 ⟨rfl, g⟩
      replace Ha := Lib.hid (Ha.out.grew g)
      replace Hb := Lib.hid (Hb.out.grew g)
      replace Hx1 := Lib.hid (Hx1.out.grew g)
      replace Hx2 := Lib.hid (Hx2.out.grew g)
      replace Hr1 := Lib.hid (Hr1.out.grew g)
      replace Hr2 := Lib.hid (Hr2.out.grew g)
      replace Hr3 := Lib.hid (Hr3.out.grew g)
      replace gg := gg.trans g
      clear g
      go_wp2_with fail
      refine (meet_val Hx1.out Hx2.out (by omega) (by omega) rfl).mono ?_
      rintro e v27 ⟨Ar4, nr4, cr4, rfl, hh, g⟩
      have br4 : nr4 ≤ 240 := by rw [← hh.1]; exact Lr4.out
      have Hr4 := Lib.hid hh
      clear hh
      replace Ha := Lib.hid (Ha.out.grew g)
      replace Hb := Lib.hid (Hb.out.grew g)
      replace Hx1 := Lib.hid (Hx1.out.grew g)
      replace Hx2 := Lib.hid (Hx2.out.grew g)
      replace Hr1 := Lib.hid (Hr1.out.grew g)
      replace Hr2 := Lib.hid (Hr2.out.grew g)
      replace Hr3 := Lib.hid (Hr3.out.grew g)
      replace gg := gg.trans g
      clear g
      go_wp2_with fail
      refine (meet_val Ha.out Hb.out (by omega) (by omega) rfl).mono ?_
      rintro e v28 ⟨Ar5, nr5, cr5, rfl, hh, g⟩
      have br5 : nr5 ≤ 240 := by rw [← hh.1]; exact Lr5.out
      have Hr5 := Lib.hid hh
      clear hh
      replace Ha := Lib.hid (Ha.out.grew g)
      replace Hb := Lib.hid (Hb.out.grew g)
      replace Hx1 := Lib.hid (Hx1.out.grew g)
      replace Hx2 := Lib.hid (Hx2.out.grew g)
      replace Hr1 := Lib.hid (Hr1.out.grew g)
      replace Hr2 := Lib.hid (Hr2.out.grew g)
      replace Hr3 := Lib.hid (Hr3.out.grew g)
      replace Hr4 := Lib.hid (Hr4.out.grew g)
      replace gg := gg.trans g
      clear g
      go_wp2_with fail
      refine (moved_val Hr5.out (by omega) N2.out m0 m1 rfl).mono ?_
      rintro e v29 ⟨Ar6, nr6, cr6, rfl, hh, g⟩
      have br6 : nr6 ≤ 240 := by rw [← hh.1]; exact Lr6.out
      have Hr6 := Lib.hid hh
      clear hh
      replace Ha := Lib.hid (Ha.out.grew g)
      replace Hb := Lib.hid (Hb.out.grew g)
      replace Hx1 := Lib.hid (Hx1.out.grew g)
      replace Hx2 := Lib.hid (Hx2.out.grew g)
      replace Hr1 := Lib.hid (Hr1.out.grew g)
      replace Hr2 := Lib.hid (Hr2.out.grew g)
      replace Hr3 := Lib.hid (Hr3.out.grew g)
      replace Hr4 := Lib.hid (Hr4.out.grew g)
      replace Hr5 := Lib.hid (Hr5.out.grew g)
      replace gg := gg.trans g
      clear g
      go_wp2_with fail
      refine (same_val Hr4.out Hr6.out (decide_eq_true E2.out)).mono ?_
      rintro e v30 ⟨rfl, g⟩
      replace Ha := Lib.hid (Ha.out.grew g)
      replace Hb := Lib.hid (Hb.out.grew g)
      replace Hx1 := Lib.hid (Hx1.out.grew g)
      replace Hx2 := Lib.hid (Hx2.out.grew g)
      replace Hr1 := Lib.hid (Hr1.out.grew g)
      replace Hr2 := Lib.hid (Hr2.out.grew g)
      replace Hr3 := Lib.hid (Hr3.out.grew g)
      replace Hr4 := Lib.hid (Hr4.out.grew g)
      replace Hr5 := Lib.hid (Hr5.out.grew g)
      replace Hr6 := Lib.hid (Hr6.out.grew g)
      replace gg := gg.trans g
      clear g
      go_wp2_with fail
      refine (minus_val Hx1.out Hx2.out (by omega) (by omega) rfl).mono ?_
      rintro e v31 ⟨Ar7, nr7, cr7, rfl, hh, g⟩
      have br7 : nr7 ≤ 240 := by rw [← hh.1]; exact Lr7.out
      have Hr7 := Lib.hid hh
      clear hh
      replace Ha := Lib.hid (Ha.out.grew g)
      replace Hb := Lib.hid (Hb.out.grew g)
      replace Hx1 := Lib.hid (Hx1.out.grew g)
      replace Hx2 := Lib.hid (Hx2.out.grew g)
      replace Hr1 := Lib.hid (Hr1.out.grew g)
      replace Hr2 := Lib.hid (Hr2.out.grew g)
      replace Hr3 := Lib.hid (Hr3.out.grew g)
      replace Hr4 := Lib.hid (Hr4.out.grew g)
      replace Hr5 := Lib.hid (Hr5.out.grew g)
      replace Hr6 := Lib.hid (Hr6.out.grew g)
      replace gg := gg.trans g
      clear g
      go_wp2_with fail
      refine (minus_val Ha.out Hb.out (by omega) (by omega) rfl).mono ?_
      rintro e v32 ⟨Ar8, nr8, cr8, rfl, hh, g⟩
      have br8 : nr8 ≤ 240 := by rw [← hh.1]; exact Lr8.out
      have Hr8 := Lib.hid hh
      clear hh
      replace Ha := Lib.hid (Ha.out.grew g)
      replace Hb := Lib.hid (Hb.out.grew g)
      replace Hx1 := Lib.hid (Hx1.out.grew g)
      replace Hx2 := Lib.hid (Hx2.out.grew g)
      replace Hr1 := Lib.hid (Hr1.out.grew g)
      replace Hr2 := Lib.hid (Hr2.out.grew g)
      replace Hr3 := Lib.hid (Hr3.out.grew g)
      replace Hr4 := Lib.hid (Hr4.out.grew g)
      replace Hr5 := Lib.hid (Hr5.out.grew g)
      replace Hr6 := Lib.hid (Hr6.out.grew g)
      replace Hr7 := Lib.hid (Hr7.out.grew g)
      replace gg := gg.trans g
      clear g
      go_wp2_with fail
      refine (moved_val Hr8.out (by omega) N3.out m0 m1 rfl).mono ?_
      rintro e v33 ⟨Ar9, nr9, cr9, rfl, hh, g⟩
      have br9 : nr9 ≤ 240 := by rw [← hh.1]; exact Lr9.out
      have Hr9 := Lib.hid hh
      clear hh
      replace Ha := Lib.hid (Ha.out.grew g)
      replace Hb := Lib.hid (Hb.out.grew g)
      replace Hx1 := Lib.hid (Hx1.out.grew g)
      replace Hx2 := Lib.hid (Hx2.out.grew g)
      replace Hr1 := Lib.hid (Hr1.out.grew g)
      replace Hr2 := Lib.hid (Hr2.out.grew g)
      replace Hr3 := Lib.hid (Hr3.out.grew g)
      replace Hr4 := Lib.hid (Hr4.out.grew g)
      replace Hr5 := Lib.hid (Hr5.out.grew g)
      replace Hr6 := Lib.hid (Hr6.out.grew g)
      replace Hr7 := Lib.hid (Hr7.out.grew g)
      replace Hr8 := Lib.hid (Hr8.out.grew g)
      replace gg := gg.trans g
      clear g
      go_wp2_with fail
      refine (same_val Hr7.out Hr9.out (decide_eq_true E3.out)).mono ?_
      rintro e v34 ⟨rfl, g⟩
      replace Ha := Lib.hid (Ha.out.grew g)
      replace Hb := Lib.hid (Hb.out.grew g)
      replace Hx1 := Lib.hid (Hx1.out.grew g)
      replace Hx2 := Lib.hid (Hx2.out.grew g)
      replace Hr1 := Lib.hid (Hr1.out.grew g)
      replace Hr2 := Lib.hid (Hr2.out.grew g)
      replace Hr3 := Lib.hid (Hr3.out.grew g)
      replace Hr4 := Lib.hid (Hr4.out.grew g)
      replace Hr5 := Lib.hid (Hr5.out.grew g)
      replace Hr6 := Lib.hid (Hr6.out.grew g)
      replace Hr7 := Lib.hid (Hr7.out.grew g)
      replace Hr8 := Lib.hid (Hr8.out.grew g)
      replace Hr9 := Lib.hid (Hr9.out.grew g)
      replace gg := gg.trans g
      clear g
      go_wp2_with fail
      refine (size_val Hx1.out (by omega) HZ.out).mono ?_
      rintro e v35 ⟨rfl, g⟩
      replace Ha := Lib.hid (Ha.out.grew g)
      replace Hb := Lib.hid (Hb.out.grew g)
      replace Hx1 := Lib.hid (Hx1.out.grew g)
      replace Hx2 := Lib.hid (Hx2.out.grew g)
      replace Hr1 := Lib.hid (Hr1.out.grew g)
      replace Hr2 := Lib.hid (Hr2.out.grew g)
      replace Hr3 := Lib.hid (Hr3.out.grew g)
      replace Hr4 := Lib.hid (Hr4.out.grew g)
      replace Hr5 := Lib.hid (Hr5.out.grew g)
      replace Hr6 := Lib.hid (Hr6.out.grew g)
      replace Hr7 := Lib.hid (Hr7.out.grew g)
      replace Hr8 := Lib.hid (Hr8.out.grew g)
      replace Hr9 := Lib.hid (Hr9.out.grew g)
      replace gg := gg.trans g
      clear g
      go_wp2_with fail
      refine (size_val Ha.out (by omega) HZA.out).mono ?_
      rintro e v36 ⟨rfl, g⟩
      replace Ha := Lib.hid (Ha.out.grew g)
      replace Hb := Lib.hid (Hb.out.grew g)
      replace Hx1 := Lib.hid (Hx1.out.grew g)
      replace Hx2 := Lib.hid (Hx2.out.grew g)
      replace Hr1 := Lib.hid (Hr1.out.grew g)
      replace Hr2 := Lib.hid (Hr2.out.grew g)
      replace Hr3 := Lib.hid (Hr3.out.grew g)
      replace Hr4 := Lib.hid (Hr4.out.grew g)
      replace Hr5 := Lib.hid (Hr5.out.grew g)
      replace Hr6 := Lib.hid (Hr6.out.grew g)
      replace Hr7 := Lib.hid (Hr7.out.grew g)
      replace Hr8 := Lib.hid (Hr8.out.grew g)
      replace Hr9 := Lib.hid (Hr9.out.grew g)
      replace gg := gg.trans g
      clear g
      go_wp2_with fail
      refine (valid_val Hx1.out (by omega) HVV.out).mono ?_
      rintro e v37 ⟨rfl, g⟩
      replace Ha := Lib.hid (Ha.out.grew g)
      replace Hb := Lib.hid (Hb.out.grew g)
      replace Hx1 := Lib.hid (Hx1.out.grew g)
      replace Hx2 := Lib.hid (Hx2.out.grew g)
      replace Hr1 := Lib.hid (Hr1.out.grew g)
      replace Hr2 := Lib.hid (Hr2.out.grew g)
      replace Hr3 := Lib.hid (Hr3.out.grew g)
      replace Hr4 := Lib.hid (Hr4.out.grew g)
      replace Hr5 := Lib.hid (Hr5.out.grew g)
      replace Hr6 := Lib.hid (Hr6.out.grew g)
      replace Hr7 := Lib.hid (Hr7.out.grew g)
      replace Hr8 := Lib.hid (Hr8.out.grew g)
      replace Hr9 := Lib.hid (Hr9.out.grew g)
      replace gg := gg.trans g
      clear g
      go_wp2_with fail
      refine (valid_val Ha.out (by omega) HVA.out).mono ?_
      rintro e v38 ⟨rfl, g⟩
      replace Ha := Lib.hid (Ha.out.grew g)
      replace Hb := Lib.hid (Hb.out.grew g)
      replace Hx1 := Lib.hid (Hx1.out.grew g)
      replace Hx2 := Lib.hid (Hx2.out.grew g)
      replace Hr1 := Lib.hid (Hr1.out.grew g)
      replace Hr2 := Lib.hid (Hr2.out.grew g)
      replace Hr3 := Lib.hid (Hr3.out.grew g)
      replace Hr4 := Lib.hid (Hr4.out.grew g)
      replace Hr5 := Lib.hid (Hr5.out.grew g)
      replace Hr6 := Lib.hid (Hr6.out.grew g)
      replace Hr7 := Lib.hid (Hr7.out.grew g)
      replace Hr8 := Lib.hid (Hr8.out.grew g)
      replace Hr9 := Lib.hid (Hr9.out.grew g)
      replace gg := gg.trans g
      clear g
      go_wp2_with fail
      go_ret
      exact ⟨by simp, gg⟩
theorem shift_law (Aa : Option Addr) (na ca : Nat) (a : List Sp) (Ab : Option Addr) (nb cb : Nat) (b : List Sp) (w : World) (ha : Spans w Aa na ca a) (hb : Spans w Ab nb cb b) (n : Int) :
    Calls Try.prog 8 #[.slice Aa na ca, .slice Ab nb cb, .int .i64 n] w fun e w' => e = .returned (.bool true) ∧ Grew w w' := by
  cases hs : shortB [(Aa, na, ca), (Ab, nb, cb)] with
  | false => exact shift_skip Aa na ca a Ab nb cb b w ha hb n hs
  | true =>
    unfold shortB at hs
    simp at hs
    by_cases m0 : n < -1125899906842624
    · exact shift_s1 Aa na ca a Ab nb cb b w ha hb n (by omega) (by omega) m0
    · by_cases m1 : 1125899906842624 < n
      · exact shift_s2 Aa na ca a Ab nb cb b w ha hb n (by omega) (by omega) m1
      · exact shift_main Aa na ca a Ab nb cb b w ha hb n (by omega) (by omega) (by omega) (by omega)
end Go.Proofs.Ytngbkpplkkpagaa
