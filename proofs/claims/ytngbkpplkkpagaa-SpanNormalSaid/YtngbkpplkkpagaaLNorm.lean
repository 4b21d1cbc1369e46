/-
  The law SpanNormal, walked.
-/
import Derived.Test.YtngbkpplkkpagaaShuf
namespace Go.Proofs.Ytngbkpplkkpagaa
open Go.RowKit Go.Proofs WageMem WageSpan WageReg

theorem more_eq {p l : List Sp} {t : Sp} (hp : p.Perm l) (ht : t ∈ l) : nrm (p ++ [t, (5, 5), (2305843009213693951, 3)]) = nrm l := by
  refine nrm_eq (nrm_normal l) fun n => ?_
  rw [nrm_has, has_append, has_perm hp, has_cons, has_cons, has_cons, has_nil, in_false (s := (5, 5)) (by decide +kernel), in_false (s := (2305843009213693951, 3)) (by decide +kernel)]
  cases h : inB t n with
  | false => simp
  | true => have := has_iff.2 ⟨t, ht, h⟩; rw [this]; rfl
theorem perm_eq {p l : List Sp} (hp : p.Perm l) : nrm p = nrm l := nrm_eq (nrm_normal l) fun n => by rw [nrm_has, has_perm hp]
theorem nrm_nrm (l : List Sp) : nrm (nrm l) = nrm l := nrm_self (nrm_normal l)
theorem nrm_at {l : List Sp} {k : Nat} {s : Sp} (h : (nrm l)[k]? = some s) : s.1 < s.2 := by
  have := (proper_iff.1 ((nrm_normal l).1 s (List.mem_of_getElem? h))); exact this.2.2
theorem nrm_gap {l : List Sp} {k : Nat} {s t : Sp} (ht : (nrm l)[k]? = some t) (h : (nrm l)[k + 1]? = some s) : t.2 < s.1 := (valid_pairs.1 (nrm_normal l)).2 k t s ht h

set_option maxRecDepth 100000 in
set_option maxHeartbeats 16000000 in
theorem norm_skip (Aa : Option Addr) (na ca : Nat) (a : List Sp) (w : World) (_ha : Spans w Aa na ca a) (y z : Int) (_y0 : 0 ≤ y) (_y1 : y ≤ 255) (_z0 : 0 ≤ z) (_z1 : z ≤ 255) (hs : shortB [(Aa, na, ca)] = false) :
    Calls Try.prog 4 #[.slice Aa na ca, .int .u8 y, .int .u8 z] w fun e w' => e = .returned (.bool true) ∧ Grew w w' := by
  have gg : Grew w w := Grew.refl w
  have HSH := Lib.hid hs
  clear hs
  go_enter Try.func4, Try.ntmps4
  go_wp2_with fail
  refine (head_true _).mono ?_
  rintro e v1 ⟨rfl, g⟩
  replace gg := gg.trans g
  clear g
  go_wp2_with fail
  refine (short_val [(Aa, na, ca)] rfl rfl (by simp) HSH.out).mono ?_
  rintro e v2 ⟨rfl, g⟩
  replace gg := gg.trans g
  clear g
  go_wp2_with fail
  go_ret
  exact ⟨rfl, gg⟩

set_option maxRecDepth 100000 in
set_option maxHeartbeats 16000000 in
theorem norm_main (Aa : Option Addr) (na ca : Nat) (a : List Sp) (w : World) (ha : Spans w Aa na ca a) (y z : Int) (y0 : 0 ≤ y) (y1 : y ≤ 255) (z0 : 0 ≤ z) (z1 : z ≤ 255) (ba : na ≤ 60) :
    Calls Try.prog 4 #[.slice Aa na ca, .int .u8 y, .int .u8 z] w fun e w' => e = .returned (.bool true) ∧ Grew w w' := by
  have gg : Grew w w := Grew.refl w
  have Ha := Lib.hid ha
  have HSH : Hid (shortB [(Aa, na, ca)] = true) := by unfold Hid shortB; simp [ba]
  obtain ⟨i0, hi, hz0, hz1, hz2⟩ := info_parts info33
  have Lr : Hid ((nrm a).length ≤ 120) := by have := nf_len fstB a []; show (nf fstB a []).length ≤ 120; have h1 := ha.1; simp at this; omega
  have IN := Lib.hid ha.2.2
  have HV : Hid (decide (nrm (nrm a) = nrm a) = true) := Lib.hid (decide_eq_true (nrm_nrm a))
  have HNN := Lib.hid (nrm_nrm a)
  obtain ⟨t, ht⟩ : ∃ t, decide (nrm a = a) = t := ⟨_, rfl⟩
  have HT := Lib.hid ht
  clear ha ht
  go_enter Try.func4, Try.ntmps4
  go_wp2_with fail
  refine (head_true _).mono ?_
  rintro e v1 ⟨rfl, g⟩
  replace Ha := Lib.hid (Ha.out.grew g)
  replace gg := gg.trans g
  clear g
  go_wp2_with fail
  refine (short_val [(Aa, na, ca)] rfl rfl (by simp) HSH.out).mono ?_
  rintro e v2 ⟨rfl, g⟩
  replace Ha := Lib.hid (Ha.out.grew g)
  replace gg := gg.trans g
  clear g
  go_wp2_with fail
  refine (normal_val Ha.out (by omega) rfl).mono ?_
  rintro e v3 ⟨An, nn, cn, rfl, hh, g⟩
  have bn : nn ≤ 120 := by rw [← hh.1]; exact Lr.out
  have INr := Lib.hid hh.2.2
  have Hr := Lib.hid hh
  clear hh
  replace Ha := Lib.hid (Ha.out.grew g)
  replace gg := gg.trans g
  clear g
  go_wp2_with fail
  refine (valid_val Hr.out (by omega) HV.out).mono ?_
  rintro e v4 ⟨rfl, g⟩
  replace Ha := Lib.hid (Ha.out.grew g)
  replace Hr := Lib.hid (Hr.out.grew g)
  replace gg := gg.trans g
  clear g
  go_wp2_with fail
  refine (normal_val Hr.out (by omega) HNN.out).mono ?_
  rintro e v5 ⟨A5, n5, c5, rfl, hh, g⟩
  have H5 := Lib.hid hh
  clear hh
  replace Ha := Lib.hid (Ha.out.grew g)
  replace Hr := Lib.hid (Hr.out.grew g)
  replace gg := gg.trans g
  clear g
  go_wp2_with fail
  refine (same_val H5.out Hr.out (decide_eq_true rfl)).mono ?_
  rintro e v6 ⟨rfl, g⟩
  clear H5
  replace Ha := Lib.hid (Ha.out.grew g)
  replace Hr := Lib.hid (Hr.out.grew g)
  replace gg := gg.trans g
  clear g
  go_wp2_with fail
  refine (valid_val Ha.out (by omega) HT.out).mono ?_
  rintro e v7 ⟨rfl, g⟩
  replace Ha := Lib.hid (Ha.out.grew g)
  replace Hr := Lib.hid (Hr.out.grew g)
  replace gg := gg.trans g
  clear g
  go_wp2_with fail
  refine (same_val Hr.out Ha.out HT.out).mono ?_
  rintro e v8 ⟨rfl, g⟩
  replace Ha := Lib.hid (Ha.out.grew g)
  replace Hr := Lib.hid (Hr.out.grew g)
  replace gg := gg.trans g
  clear g
  have ht0 : (t != t) = false := by simp
  clear HT
  go_wp2_with fail
  go_loopw [43] (fun i wr => ∃ k : Nat, k ≤ nn ∧ i = .int .i64 k ∧ Grew v8 wr) (fun i _ => nn - (intOf i).toNat)
  case atStart => exact ⟨0, Nat.zero_le _, rfl, Grew.refl _⟩
  case round =>
    obtain ⟨k, hk, rfl, hg⟩ := hrel
    by_cases hlt : k < nn
    · obtain ⟨b, o, s, rfl, hs, c1, c2, b1, b2⟩ := (Hr.out.grew hg).at_ hlt
      have hps := nrm_at hs
      obtain ⟨s1, s2⟩ := s
      simp only at c1 c2 b1 b2 hps
      have i0' : (0 : Int) ≤ (k : Int) := by omega
      have i1' : (k : Int) < (nn : Int) := by omega
      have q0 : decide (s2 ≤ s1) = false := decide_eq_false (by omega)
      obtain ⟨wa, hwa⟩ : ∃ x, x = wr.alloc (.cells #[.int .i64 s1, .int .i64 s2] 33) := ⟨_, rfl⟩
      have ga : Grew wr wa := by rw [hwa]; exact (Grew.refl wr).alloc _
      have e1 : wa.drew.cell? ⟨wr.heap.size, 0, none⟩ = some (.int .i64 s1) := by rw [hwa]; simp
      have e2 : wa.drew.cell? ⟨wr.heap.size, 1, none⟩ = some (.int .i64 s2) := by rw [hwa]; simp
      by_cases hk0 : k = 0
      · have t1 : decide (0 < (k : Int)) = false := decide_eq_false (by omega)
        have t2 : decide (0 < k) = false := decide_eq_false (by omega)
        clear hs hk0
        go_upto_region 10 with (fail)
        rw [← hwa]
        clear hwa c1 c2
        have hC : ∀ w', Grew wa.drew w' → w'.cell? ⟨wr.heap.size, 0, none⟩ = some (.int .i64 s1) ∧ w'.cell? ⟨wr.heap.size, 1, none⟩ = some (.int .i64 s2) := fun w' g' => ⟨g'.cell e1, g'.cell e2⟩
        refine wp_region_seq (by kernel_rfl) Grew.refl (fun _ _ _ => Grew.trans) (fun _ _ _ _ _ h => h) (by kernel_rfl) ?_
        repeat (first
          | (refine TakeAll.pure (v := ?_) (by rfl) ?_ ?_; rotate_left; (intro w' g'; obtain ⟨c1, c2⟩ := hC w' g'; go_simp; first | done | with_reducible rfl); (simp only [Act.put, List.setIfInBounds_toArray, List.set_cons_zero, List.set_cons_succ]))
          | (refine TakeAll.skip (by rfl) ?_; (simp only [Act.put, List.setIfInBounds_toArray, List.set_cons_zero, List.set_cons_succ])))
        refine TakeAll.nil ?_
        intro w5 g5
        have gE := (hg.trans ga.drew).trans g5
        clear hC e1 e2 ga
        go_wp2_with fail
        go_roundw
        case rel => exact ⟨k + 1, by omega, by go_num, gE⟩
        case measure => simp [intOf]; omega
      · have t1 : decide (0 < (k : Int)) = true := decide_eq_true (by omega)
        have t2 : decide (0 < k) = true := decide_eq_true (by omega)
        obtain ⟨b', o', x, ex, hx, d1, d2, bt1, bt2⟩ := (Hr.out.grew hg).at_ (show k - 1 < nn by omega)
        injection ex with ex
        injection ex with ex ex2
        subst ex ex2
        have hgap := nrm_gap hx (by rw [show k - 1 + 1 = k by omega]; exact hs)
        obtain ⟨x1, x2⟩ := x
        simp only at d1 d2 bt1 bt2 hgap
        have q3 : decide (s1 ≤ x2) = false := decide_eq_false (by omega)
        replace d2 := ga.drew.cell d2
        have m1 : IntKind.i64.wrap ((k : Int) - 1) = (k : Int) - 1 := IntWalk.i64_in _ (by omega)
        have m2 : ((k : Int) - 1).toNat = k - 1 := by omega
        have m3 : (0 : Int) ≤ (k : Int) - 1 := by omega
        have m3' : (1 : Int) ≤ (k : Int) := by omega
        have m4 : (k : Int) - 1 < (nn : Int) := by omega
        clear hs hx d1
        go_upto_region 10 with (fail)
        rw [← hwa]
        clear hwa c1 c2
        have hC : ∀ w', Grew wa.drew w' → w'.cell? ⟨wr.heap.size, 0, none⟩ = some (.int .i64 s1) ∧ w'.cell? ⟨wr.heap.size, 1, none⟩ = some (.int .i64 s2) ∧ w'.cell? ⟨b, o + (k - 1) * 2 + 1, none⟩ = some (.int .i64 x2) := fun w' g' => ⟨g'.cell e1, g'.cell e2, g'.cell d2⟩
        refine wp_region_seq (by kernel_rfl) Grew.refl (fun _ _ _ => Grew.trans) (fun _ _ _ _ _ h => h) (by kernel_rfl) ?_
        repeat (first
          | (refine TakeAll.pure (v := ?_) (by rfl) ?_ ?_; rotate_left; (intro w' g'; obtain ⟨c1, c2, c3⟩ := hC w' g'; go_simp; first | done | with_reducible rfl); (simp only [Act.put, List.setIfInBounds_toArray, List.set_cons_zero, List.set_cons_succ]))
          | (refine TakeAll.skip (by rfl) ?_; (simp only [Act.put, List.setIfInBounds_toArray, List.set_cons_zero, List.set_cons_succ])))
        refine TakeAll.nil ?_
        intro w5 g5
        have gE := (hg.trans ga.drew).trans g5
        clear hC e1 e2 ga hk0 d2
        go_wp2_with fail
        go_roundw
        case rel => exact ⟨k + 1, by omega, by go_num, gE⟩
        case measure => simp [intOf]; omega
    · replace Ha := Lib.hid (Ha.out.grew hg)
      replace Hr := Lib.hid (Hr.out.grew hg)
      replace gg := gg.trans hg
      clear hg
      have hsz : na + nn ≤ 180 := by omega
      have hown : (wr.alloc (.cells #[] 33)).ownsRow wr.heap.size 33 2 (.slice (some ⟨wr.heap.size, 0, none⟩) 0 0) 0 [] := World.ownsRow_made wr #[] 0 (Nat.le_refl _) (Nat.zero_le _) rfl
      have HOW := Lib.hid hown
      clear hown
      go_wp2_with (first
        | (at_builtin; refine wpList_append_sl _ rfl (.tmp 69) (.tmp 70) 22 rfl wr.heap.size 33 i0 (.agg #[.int .i64 0, .int .i64 0]) 2 16 Try.underlying22 hi hz0 hz1 hz2 rfl (by decide) (.slice (some ⟨wr.heap.size, 0, none⟩) 0 0) 0 [] rfl HOW.out Aa na ca (flat a) rfl (Ha.out.2.1.grew ((Grew.refl wr).alloc _)) (flat_one _) (by unfold maxLen; omega) (by omega) (by simp) ?_; intro v9 w9 own3 hg3 hat3; rw [Nat.zero_add, List.nil_append] at own3; obtain ⟨A3, c3, rfl⟩ := own_form own3; have gr3 : Grew wr w9 := ((Grew.refl wr).alloc _).grown hg3 (by simp [Value.ownBlock]))
        | (at_builtin; refine wpList_append_sl _ rfl (.tmp 71) (.tmp 72) 22 rfl wr.heap.size 33 i0 (.agg #[.int .i64 0, .int .i64 0]) 2 16 Try.underlying22 hi hz0 hz1 hz2 rfl (by decide) _ na _ rfl own3 An nn cn (flat (nrm a)) rfl (Hr.out.2.1.grew gr3) (flat_one _) (by unfold maxLen; omega) (by omega) gr3.le ?_; intro v10 w10 own4 hg4 hat4; obtain ⟨A4, c4, rfl⟩ := own_form own4))
      have gr4 : Grew wr w10 := gr3.grown hg4 (fun q hq => (own3.lt q hq).1)
      obtain ⟨m, hm⟩ : ∃ m, na + nn = m := ⟨_, rfl⟩
      rw [hm] at own4
      rw [← flat_append] at own4
      rw [hm, show (na : Int) + (nn : Int) = (m : Int) by omega]
      have hall : Spans w10 A4 m c4 (a ++ nrm a) := Spans.own (by rw [List.length_append, Ha.out.1, Hr.out.1]; omega) (in64_append IN.out INr.out) own4
      have hm2 : m ≤ 180 := by omega
      have HALL := Lib.hid hall
      clear own4 hg4 hat4 hall own3 hg3 hat3 gr3 HOW hm
      replace Ha := Lib.hid (Ha.out.grew gr4)
      replace Hr := Lib.hid (Hr.out.grew gr4)
      replace gg := gg.trans gr4
      clear gr4
      go_loopw [75] (fun i x => ∃ k : Nat, k ≤ m ∧ i = .int .i64 k ∧ Grew w10 x) (fun i _ => m - (intOf i).toNat)
      case atStart => exact ⟨0, Nat.zero_le _, rfl, Grew.refl _⟩
      case round =>
        obtain ⟨wo, rfl⟩ : ∃ wo : World, wo = wr := ⟨_, rfl⟩
        obtain ⟨k2, hk2, rfl, hg⟩ := hrel
        by_cases hlt2 : k2 < m
        · obtain ⟨b, o, s, rfl, hs, c1, c2, b1, b2⟩ := (HALL.out.grew hg).at_ hlt2
          obtain ⟨s1, s2⟩ := s
          simp only at c1 c2 b1 b2
          have i0' : (0 : Int) ≤ (k2 : Int) := by omega
          have i1' : (k2 : Int) < (m : Int) := by omega
          obtain ⟨f, hf⟩ : ∃ f, farB s1 s2 = f := ⟨_, rfl⟩
          have HF := Lib.hid hf
          obtain ⟨wa, hwa⟩ : ∃ x, x = wo.alloc (.cells #[.int .i64 s1, .int .i64 s2] 33) := ⟨_, rfl⟩
          have ga : Grew wo wa := by rw [hwa]; exact (Grew.refl wo).alloc _
          have e1 : wa.cell? ⟨wo.heap.size, 0, none⟩ = some (.int .i64 s1) := by rw [hwa]; simp
          have e2 : wa.cell? ⟨wo.heap.size, 1, none⟩ = some (.int .i64 s2) := by rw [hwa]; simp
          clear hs hf
          go_wp2_with fail
          rw [← hwa]
          clear hwa c1 c2
          go_loopw [13] (fun v x => ∃ d : Int, -1 ≤ d ∧ d ≤ 2 ∧ v = .int .i64 d ∧ Grew wa x) (fun v _ => (2 - intOf v).toNat)
          case atStart => exact ⟨-1, by omega, by omega, rfl, Grew.refl _⟩
          case round =>
            obtain ⟨wi, rfl⟩ : ∃ wi : World, wi = wr := ⟨_, rfl⟩
            obtain ⟨d, d0, d1, rfl, hgi⟩ := hrel
            by_cases hlt3 : d ≤ 1
            · have hgI := hgi.drew
              have cc1 := hgI.cell e1
              have cc2 := hgI.cell e2
              cases f with
              | false =>
                go_wp2_with fail
                have hC : ∀ w', Grew wi.drew w' → w'.cell? ⟨wo.heap.size, 0, none⟩ = some (.int .i64 s1) ∧ w'.cell? ⟨wo.heap.size, 1, none⟩ = some (.int .i64 s2) := fun w' g' => ⟨g'.cell cc1, g'.cell cc2⟩
                refine wp_region_seq (by kernel_rfl) Grew.refl (fun _ _ _ => Grew.trans) (fun _ _ _ _ _ h => h) (by kernel_rfl) ?_
                repeat (first
                  | (refine TakeAll.pure (v := ?_) (by rfl) ?_ ?_; rotate_left; (intro w' g'; obtain ⟨c1, c2⟩ := hC w' g'; go_simp; first | done | with_reducible rfl); (simp only [Act.put, List.setIfInBounds_toArray, List.set_cons_zero, List.set_cons_succ]))
                  | (refine TakeAll.skip (by rfl) ?_; (simp only [Act.put, List.setIfInBounds_toArray, List.set_cons_zero, List.set_cons_succ])))
                refine TakeAll.call (by rfl) 27 _ (fun _ => by go_simp) (fun w' g' => far_val HF.out w') ?_
                simp only [Act.put, List.setIfInBounds_toArray, List.set_cons_zero, List.set_cons_succ]
                repeat (first
                  | (refine TakeAll.pure (v := ?_) (by rfl) ?_ ?_; rotate_left; (intro w' g'; obtain ⟨c1, c2⟩ := hC w' g'; go_simp; first | done | with_reducible rfl); (simp only [Act.put, List.setIfInBounds_toArray, List.set_cons_zero, List.set_cons_succ]))
                  | (refine TakeAll.skip (by rfl) ?_; (simp only [Act.put, List.setIfInBounds_toArray, List.set_cons_zero, List.set_cons_succ])))
                refine TakeAll.nil ?_
                intro w5 g5
                have gE := hgI.trans g5
                clear hC cc1 cc2
                go_wp2_with fail
                go_roundw
                case rel => exact ⟨d + 1, by omega, by omega, rfl, gE⟩
                case measure => simp [intOf]; omega
              | true =>
                have hfar := far_iff.1 HF.out
                have m1 : IntKind.i64.wrap (s1 + d) = s1 + d := IntWalk.i64_in _ (by omega)
                have m2 : IntKind.i64.wrap (s2 + d) = s2 + d := IntWalk.i64_in _ (by omega)
                obtain ⟨x, hx⟩ : ∃ x, hasB a (s1 + d) = x := ⟨_, rfl⟩
                obtain ⟨x', hx'⟩ : ∃ x, hasB a (s2 + d) = x := ⟨_, rfl⟩
                have HX := Lib.hid hx
                have HX' := Lib.hid hx'
                have HY : Hid (hasB (nrm a) (s1 + d) = x) := by unfold Hid; rw [nrm_has]; exact hx
                have HY' : Hid (hasB (nrm a) (s2 + d) = x') := by unfold Hid; rw [nrm_has]; exact hx'
                have ne1 : (x != x) = false := by simp
                have ne2 : (x' != x') = false := by simp
                have GA := Lib.hid (hg.trans (ga.trans hgI))
                clear hx hx' hfar
                go_wp2_with fail
                have hC : ∀ w', Grew wi.drew w' → w'.cell? ⟨wo.heap.size, 0, none⟩ = some (.int .i64 s1) ∧ w'.cell? ⟨wo.heap.size, 1, none⟩ = some (.int .i64 s2) := fun w' g' => ⟨g'.cell cc1, g'.cell cc2⟩
                refine wp_region_seq (by kernel_rfl) Grew.refl (fun _ _ _ => Grew.trans) (fun _ _ _ _ _ h => h) (by kernel_rfl) ?_
                repeat (first
                  | (refine TakeAll.pure (v := ?_) (by rfl) ?_ ?_; rotate_left; (intro w' g'; obtain ⟨c1, c2⟩ := hC w' g'; go_simp; first | done | with_reducible rfl); (simp only [Act.put, List.setIfInBounds_toArray, List.set_cons_zero, List.set_cons_succ]))
                  | (refine TakeAll.skip (by rfl) ?_; (simp only [Act.put, List.setIfInBounds_toArray, List.set_cons_zero, List.set_cons_succ])))
                refine TakeAll.call (by rfl) 27 _ (fun _ => by go_simp) (fun w' g' => far_val HF.out w') ?_
                simp only [Act.put, List.setIfInBounds_toArray, List.set_cons_zero, List.set_cons_succ]
                repeat (first
                  | (refine TakeAll.pure (v := ?_) (by rfl) ?_ ?_; rotate_left; (intro w' g'; obtain ⟨c1, c2⟩ := hC w' g'; go_simp; first | done | with_reducible rfl); (simp only [Act.put, List.setIfInBounds_toArray, List.set_cons_zero, List.set_cons_succ]))
                  | (refine TakeAll.skip (by rfl) ?_; (simp only [Act.put, List.setIfInBounds_toArray, List.set_cons_zero, List.set_cons_succ])))
                refine TakeAll.call (by rfl) 23 _ (fun _ => by go_simp) (fun w' g' => has_val (Ha.out.grew (GA.out.trans g')) HX.out) ?_
                simp only [Act.put, List.setIfInBounds_toArray, List.set_cons_zero, List.set_cons_succ]
                repeat (first
                  | (refine TakeAll.pure (v := ?_) (by rfl) ?_ ?_; rotate_left; (intro w' g'; obtain ⟨c1, c2⟩ := hC w' g'; go_simp; first | done | with_reducible rfl); (simp only [Act.put, List.setIfInBounds_toArray, List.set_cons_zero, List.set_cons_succ]))
                  | (refine TakeAll.skip (by rfl) ?_; (simp only [Act.put, List.setIfInBounds_toArray, List.set_cons_zero, List.set_cons_succ])))
                refine TakeAll.call (by rfl) 23 _ (fun _ => by go_simp) (fun w' g' => has_val (Hr.out.grew (GA.out.trans g')) HY.out) ?_
                simp only [Act.put, List.setIfInBounds_toArray, List.set_cons_zero, List.set_cons_succ]
                repeat (first
                  | (refine TakeAll.pure (v := ?_) (by rfl) ?_ ?_; rotate_left; (intro w' g'; obtain ⟨c1, c2⟩ := hC w' g'; go_simp; first | done | with_reducible rfl); (simp only [Act.put, List.setIfInBounds_toArray, List.set_cons_zero, List.set_cons_succ]))
                  | (refine TakeAll.skip (by rfl) ?_; (simp only [Act.put, List.setIfInBounds_toArray, List.set_cons_zero, List.set_cons_succ])))
                refine TakeAll.call (by rfl) 23 _ (fun _ => by go_simp) (fun w' g' => has_val (Ha.out.grew (GA.out.trans g')) HX'.out) ?_
                simp only [Act.put, List.setIfInBounds_toArray, List.set_cons_zero, List.set_cons_succ]
                repeat (first
                  | (refine TakeAll.pure (v := ?_) (by rfl) ?_ ?_; rotate_left; (intro w' g'; obtain ⟨c1, c2⟩ := hC w' g'; go_simp; first | done | with_reducible rfl); (simp only [Act.put, List.setIfInBounds_toArray, List.set_cons_zero, List.set_cons_succ]))
                  | (refine TakeAll.skip (by rfl) ?_; (simp only [Act.put, List.setIfInBounds_toArray, List.set_cons_zero, List.set_cons_succ])))
                refine TakeAll.call (by rfl) 23 _ (fun _ => by go_simp) (fun w' g' => has_val (Hr.out.grew (GA.out.trans g')) HY'.out) ?_
                simp only [Act.put, List.setIfInBounds_toArray, List.set_cons_zero, List.set_cons_succ]
                repeat (first
                  | (refine TakeAll.pure (v := ?_) (by rfl) ?_ ?_; rotate_left; (intro w' g'; obtain ⟨c1, c2⟩ := hC w' g'; go_simp; first | done | with_reducible rfl); (simp only [Act.put, List.setIfInBounds_toArray, List.set_cons_zero, List.set_cons_succ]))
                  | (refine TakeAll.skip (by rfl) ?_; (simp only [Act.put, List.setIfInBounds_toArray, List.set_cons_zero, List.set_cons_succ])))
                refine TakeAll.nil ?_
                intro w5 g5
                have gE := hgI.trans g5
                clear hC cc1 cc2 m1 m2 ne1 ne2
                go_wp2_with fail
                go_roundw
                case rel => exact ⟨d + 1, by omega, by omega, rfl, gE⟩
                case measure => simp [intOf]; omega
            · have gE := hg.trans (ga.trans hgi)
              clear e1 e2
              go_wp2_with fail
              go_roundw
              case rel => exact ⟨k2 + 1, by omega, by go_num, gE⟩
              case measure => simp [intOf]; omega
        · replace Ha := Lib.hid (Ha.out.grew hg)
          replace Hr := Lib.hid (Hr.out.grew hg)
          replace gg := gg.trans hg
          clear hg HALL
          go_wp2_with fail
          refine (shuffled_any Aa na ca a y _ Ha.out (by omega) y0 y1).mono ?_
          rintro e v11 ⟨p, Ap, np, cp, hp, rfl, hpl, ownp, g⟩
          have HPP := Lib.hid hp
          have hnp : np = na := by rw [← hpl, hp.length_eq, Ha.out.1]
          subst hnp
          have HPL := Lib.hid hpl
          have OWNP := Lib.hid ownp
          clear hp hpl ownp
          have hle := g.le
          have Hr0 := Hr
          have gg0 := gg
          have g0 := g
          replace Ha := Lib.hid (Ha.out.grew g)
          replace Hr := Lib.hid (Hr.out.grew g)
          replace gg := gg.trans g
          clear g
          by_cases h0 : np = 0
          · have t1 : decide (0 < (np : Int)) = false := decide_eq_false (by omega)
            have t2 : decide (0 < np) = false := decide_eq_false (by omega)
            have Hp : Hid (Spans v11 Ap np cp p) := Lib.hid (Spans.own HPL.out (fun s hs => IN.out s (HPP.out.mem_iff.1 hs)) OWNP.out)
            have HE := Lib.hid (perm_eq HPP.out)
            clear h0
            go_wp2_with fail
            refine (normal_val Hp.out (by omega) HE.out).mono ?_
            rintro e v12 ⟨A12, n12, c12, rfl, hh, g⟩
            have H12 := Lib.hid hh
            clear hh
            replace Ha := Lib.hid (Ha.out.grew g)
            replace Hr := Lib.hid (Hr.out.grew g)
            replace gg := gg.trans g
            clear g
            go_wp2_with fail
            refine (same_val H12.out Hr.out (decide_eq_true rfl)).mono ?_
            rintro e v13 ⟨rfl, g⟩
            replace Ha := Lib.hid (Ha.out.grew g)
            replace Hr := Lib.hid (Hr.out.grew g)
            replace gg := gg.trans g
            clear g
            go_wp2_with fail
            go_ret
            exact ⟨rfl, gg⟩
          · have t1 : decide (0 < (np : Int)) = true := decide_eq_true (by omega)
            have t2 : decide (0 < np) = true := decide_eq_true (by omega)
            obtain ⟨q, hq⟩ : ∃ q : Nat, z % (np : Int) = (q : Int) := ⟨(z % (np : Int)).toNat, by have := Int.emod_nonneg z (show (np : Int) ≠ 0 by omega); omega⟩
            have hqm : q < np := by have := Int.emod_lt_of_pos z (show (0 : Int) < np by omega); omega
            obtain ⟨b, o, s, rfl, hs, c1, c2, b1, b2⟩ := Ha.out.at_ hqm
            have hmem := List.mem_of_getElem? hs
            obtain ⟨s1, s2⟩ := s
            simp only at c1 c2 b1 b2
            have HE := Lib.hid (more_eq HPP.out hmem)
            have j0 : (0 : Int) ≤ (q : Int) := by omega
            have j1 : (q : Int) < (np : Int) := by omega
            have INP : Hid (In64 (p ++ [(s1, s2), (5, 5), (2305843009213693951, 3)])) := by
              refine in64_append (fun s hs => IN.out s (HPP.out.mem_iff.1 hs)) fun s hs => ?_
              simp only [List.mem_cons, List.not_mem_nil, or_false] at hs
              rcases hs with rfl | rfl | rfl
              · exact ⟨b1, b2⟩
              · simp
              · simp
            have BI : Hid (Sl (v11.alloc (.cells #[.int .i64 s1, .int .i64 s2, .int .i64 5, .int .i64 5, .int .i64 2305843009213693951, .int .i64 3] 33)) 2 (some ⟨v11.heap.size, 0, none⟩) 3 3 (flat [(s1, s2), (5, 5), (2305843009213693951, 3)])) := built 2 3 _ _ rfl rfl (by decide)
            clear hs h0 hmem
            go_wp2_with (at_builtin; refine wpList_append_sl _ rfl (.tmp 122) (.tmp 133) 22 rfl wo.heap.size 33 i0 (.agg #[.int .i64 0, .int .i64 0]) 2 16 Try.underlying22 hi hz0 hz1 hz2 rfl (by decide) (.slice Ap np cp) np _ rfl (OWNP.out.alloc _) (some ⟨v11.heap.size, 0, none⟩) 3 3 _ rfl BI.out (flat_one _) (by unfold maxLen; omega) (by omega) (by simp; omega) ?_; intro v14 w14 own4 hg4 hat4; obtain ⟨A4', c4', rfl⟩ := own_form own4)
            have gE : Grew wo w14 := (g0.alloc _).grown hg4 (fun q hq => (OWNP.out.lt q hq).1)
            have Hp : Hid (Spans w14 A4' (np + 3) c4' (p ++ [(s1, s2), (5, 5), (2305843009213693951, 3)])) := Lib.hid (Spans.own (by rw [List.length_append, HPL.out]; rfl) INP.out (by rw [flat_append]; exact own4))
            replace Hr := Lib.hid (Hr0.out.grew gE)
            replace gg := gg0.trans gE
            clear own4 hg4 hat4 BI c1 c2 Hr0 gg0 g0 gE Ha hq
            go_wp2_with fail
            refine (normal_val Hp.out (by omega) HE.out).mono ?_
            rintro e v12 ⟨A12, n12, c12, rfl, hh, g⟩
            have H12 := Lib.hid hh
            clear hh
            replace Hr := Lib.hid (Hr.out.grew g)
            replace gg := gg.trans g
            clear g
            go_wp2_with fail
            refine (same_val H12.out Hr.out (decide_eq_true rfl)).mono ?_
            rintro e v13 ⟨rfl, g⟩
            replace Hr := Lib.hid (Hr.out.grew g)
            replace gg := gg.trans g
            clear g
            go_wp2_with fail
            go_ret
            exact ⟨rfl, gg⟩

theorem norm_law (Aa : Option Addr) (na ca : Nat) (a : List Sp) (w : World) (ha : Spans w Aa na ca a) (y z : Int) (y0 : 0 ≤ y) (y1 : y ≤ 255) (z0 : 0 ≤ z) (z1 : z ≤ 255) :
    Calls Try.prog 4 #[.slice Aa na ca, .int .u8 y, .int .u8 z] w fun e w' => e = .returned (.bool true) ∧ Grew w w' := by
  cases hs : shortB [(Aa, na, ca)] with
  | false => exact norm_skip Aa na ca a w ha y z y0 y1 z0 z1 hs
  | true =>
    unfold shortB at hs
    simp at hs
    exact norm_main Aa na ca a w ha y z y0 y1 z0 z1 (by omega)
end Go.Proofs.Ytngbkpplkkpagaa
