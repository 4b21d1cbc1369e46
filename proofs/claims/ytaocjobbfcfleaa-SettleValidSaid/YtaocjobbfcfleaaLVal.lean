/-
  SettleValid: the law's walk.
-/
import Derived.Test.YtaocjobbfcfleaaLOth
namespace Go.Proofs.Ytaocjobbfcfleaa
open Go.RowKit Go.Proofs WageMem WageOrd WageRec WageMap WageReg WageSet
set_option maxRecDepth 100000 in
set_option maxHeartbeats 16000000 in
theorem valid_law (A0 : Option Addr) (n0 c0 : Nat) (B0 : Option Addr) (m0 e0 : Nat) (d : Desk) (p : Pay) (a : Ans) (w : World) (h : DeskIs w A0 n0 c0 B0 m0 e0 d) (hp : p.acc.size ≤ maxLen) : Calls Try.prog 4 #[.agg #[.slice A0 n0 c0, .slice B0 m0 e0], pv p, av a] w fun e w' => e = .returned (.bool true) ∧ Grew w w' := by
  have HD := Lib.hid h
  clear h
  show Calls Try.prog 4 #[.agg #[.slice A0 n0 c0, .slice B0 m0 e0], .agg #[.int .i64 p.id, .string p.acc, .int .i64 p.c, .int .i64 p.d], .agg #[.int .i64 a.q, .int .i64 a.id, .int .i64 a.k, .int .i64 a.c, .int .i64 a.d]] w _
  obtain ⟨b1, hb0⟩ : ∃ b, b = w.heap.size := ⟨_, rfl⟩
  obtain ⟨w1, hw0⟩ : ∃ x, x = w.alloc (.cells #[.slice A0 n0 c0, .slice B0 m0 e0] 25) := ⟨_, rfl⟩
  have g0 : Grew w w1 := by rw [hw0]; exact (Grew.refl w).alloc _
  have sz0 : w1.heap.size = w.heap.size + 1 := by rw [hw0]; simp
  obtain ⟨b2, hb1⟩ : ∃ b, b = w.heap.size + 1 := ⟨_, rfl⟩
  obtain ⟨w2, hw1⟩ : ∃ x, x = w1.alloc (.cells #[.int .i64 p.id, .string p.acc, .int .i64 p.c, .int .i64 p.d] 27) := ⟨_, rfl⟩
  have g1 : Grew w1 w2 := by rw [hw1]; exact (Grew.refl w1).alloc _
  have sz1 : w2.heap.size = w.heap.size + 1 + 1 := by rw [hw1]; simp [sz0]
  obtain ⟨b3, hb2⟩ : ∃ b, b = w.heap.size + 1 + 1 := ⟨_, rfl⟩
  obtain ⟨w3, hw2⟩ : ∃ x, x = w2.alloc (.cells #[.int .i64 a.q, .int .i64 a.id, .int .i64 a.k, .int .i64 a.c, .int .i64 a.d] 29) := ⟨_, rfl⟩
  have g2 : Grew w2 w3 := by rw [hw2]; exact (Grew.refl w2).alloc _
  have sz2 : w3.heap.size = w.heap.size + 1 + 1 + 1 := by rw [hw2]; simp [sz1]
  have HRd : Hid (w3.rangeAt b1 0 [.slice A0 n0 c0, .slice B0 m0 e0]) := by
    unfold Hid
    rw [hb0]
    exact range_grew (by rw [hw0]; exact range_new w _ 25) (g1.trans g2)
  have HRp : Hid (w3.rangeAt b2 0 [.int .i64 p.id, .string p.acc, .int .i64 p.c, .int .i64 p.d]) := by
    unfold Hid
    rw [hb1, ← sz0]
    exact range_grew (by rw [hw1]; exact range_new w1 _ 27) g2
  have HRa : Hid (w3.rangeAt b3 0 [.int .i64 a.q, .int .i64 a.id, .int .i64 a.k, .int .i64 a.c, .int .i64 a.d]) := by
    unfold Hid
    rw [hb2, ← sz1]
    exact range_grew (by rw [hw2]; exact range_new w2 _ 29) (Grew.refl _)
  have gg : Grew w w3 := ((g0.trans g1).trans g2)
  clear sz0 g0 sz1 g1 sz2 g2
  go_enter Try.func4, Try.ntmps4
  go_upto_region 1 with (fail)
  rw [← hw0]
  rw [← hw1]
  rw [← hw2]
  rw [← hb2, ← hb1, ← hb0]
  clear hw0 hb0 hw1 hb1 hw2 hb2
  replace HD := Lib.hid (HD.out.grew gg)
  go_wp2_with fail
  refine (head_true _).mono ?_
  rintro r w4 ⟨rfl, g⟩
  replace HRd := Lib.hid (range_grew HRd.out g)
  replace HRp := Lib.hid (range_grew HRp.out g)
  replace HRa := Lib.hid (range_grew HRa.out g)
  replace HD := Lib.hid (HD.out.grew g)
  replace gg := gg.trans g
  clear g
  obtain ⟨tv, htv⟩ : ∃ t, smallB d = t := ⟨_, rfl⟩
  obtain ⟨z0_0, z0_1⟩ := d_cells HRd.out
  go_wp2_with fail
  clear z0_0 z0_1
  refine (small_val HD.out htv).mono ?_
  rintro r w5 ⟨rfl, g⟩
  replace HRd := Lib.hid (range_grew HRd.out g)
  replace HRp := Lib.hid (range_grew HRp.out g)
  replace HRa := Lib.hid (range_grew HRa.out g)
  replace HD := Lib.hid (HD.out.grew g)
  replace gg := gg.trans g
  clear g
  cases tv with
  | false =>
    go_wp2_with fail
    go_ret
    exact ⟨rfl, gg⟩
  | true =>
    obtain ⟨tv, hvv⟩ : ∃ t, validB d = t := ⟨_, rfl⟩
    obtain ⟨z1_0, z1_1⟩ := d_cells HRd.out
    go_wp2_with fail
    clear z1_0 z1_1
    refine (rvalid_val HD.out hvv).mono ?_
    rintro r w6 ⟨rfl, g⟩
    replace HRd := Lib.hid (range_grew HRd.out g)
    replace HRp := Lib.hid (range_grew HRp.out g)
    replace HRa := Lib.hid (range_grew HRa.out g)
    replace HD := Lib.hid (HD.out.grew g)
    replace gg := gg.trans g
    clear g
    cases tv with
    | false =>
      go_wp2_with fail
      go_ret
      exact ⟨rfl, gg⟩
    | true =>
      have HV := Lib.hid hvv
      have hn30 : n0 ≤ 30 := by rw [← HD.out.1.1.1]; exact (small_parts htv).1
      have hm60 : m0 ≤ 60 := by rw [← HD.out.2.1]; exact (small_parts htv).2
      have LA := Lib.hid HD.out.1.1.1
      have LB := Lib.hid HD.out.2.1
      clear hvv htv
      obtain ⟨z1, hz1⟩ : ∃ z, sendE d p = z := ⟨_, rfl⟩
      obtain ⟨d1, hd1⟩ : ∃ z, sendD d p = z := ⟨_, rfl⟩
      obtain ⟨z2_0, z2_1⟩ := d_cells HRd.out
      obtain ⟨z3_0, z3_1, z3_2, z3_3⟩ := p_cells0 HRp.out
      go_wp2_with fail
      clear z2_0 z2_1 z3_0 z3_1 z3_2 z3_3
      refine (send_val HD.out hp hz1 hd1).mono ?_
      rintro r w7 ⟨A1, n1, c1, B1, m1, e1, rfl, hk1, g⟩
      replace HRd := Lib.hid (range_grew HRd.out g)
      replace HRp := Lib.hid (range_grew HRp.out g)
      replace HRa := Lib.hid (range_grew HRa.out g)
      replace HD := Lib.hid (HD.out.grew g)
      replace gg := gg.trans g
      clear g
      obtain ⟨w8, hw⟩ : ∃ y, y = w7.alloc (.cells #[.slice A1 n1 c1, .slice B1 m1 e1] 25) := ⟨_, rfl⟩
      have g : Grew w7 w8 := by rw [hw]; exact (Grew.refl _).alloc _
      obtain ⟨b8, hb⟩ : ∃ z, z = w7.heap.size := ⟨_, rfl⟩
      have HR1 : Hid (w8.rangeAt b8 0 [.slice A1 n1 c1, .slice B1 m1 e1]) := by unfold Hid; rw [hw, hb]; exact range_new w7 _ 25
      have HD1 := Lib.hid (hk1.grew g)
      clear hk1
      replace HRd := Lib.hid (range_grew HRd.out g)
      replace HRp := Lib.hid (range_grew HRp.out g)
      replace HRa := Lib.hid (range_grew HRa.out g)
      replace HD := Lib.hid (HD.out.grew g)
      replace gg := gg.trans g
      clear g
      go_upto_region 5 with (fail)
      rw [← hw, ← hb]
      clear hw hb
      rcases Decidable.em (z1 = 0) with hz | hz
      · subst hz
        have q : ((0 : Int) == 0) = true := rfl
        have HS1 := Lib.hid (send_cases hz1)
        have HV1 := Lib.hid (send_valid hz1)
        have HO1 := Lib.hid (send_others hz1)
        rw [hd1] at HS1 HV1 HO1
        have hss : d1.ss = d.ss ++ [⟨p, 1, 0, 0⟩] := by rw [HS1.out.2.2.2.2]
        have han : d1.an = d.an := by rw [HS1.out.2.2.2.2]
        have hn1 : n1 = n0 + 1 := by rw [← HD1.out.1.1.1, hss, List.length_append, LA.out]; rfl
        have hm1 : m0 = m1 := by rw [← HD1.out.2.1, han, LB.out]
        subst hn1 hm1
        clear hz1 hd1 HS1
        go_upto_region 6 with (fail)
        obtain ⟨z4_0, z4_1⟩ := d_cells HRd.out
        go_upto_region 7 with (fail)
        clear z4_0 z4_1
        obtain ⟨b, o, x, hAx, hx, hr⟩ := (HD1.out.1.1.grew (Grew.refl w8).drew).at_ se_ok (show n0 < n0 + 1 by omega)
        have hxe : x = ⟨p, 1, 0, 0⟩ := by
          rw [hss, List.getElem?_append_right (by rw [LA.out]; exact Nat.le_refl _), LA.out, Nat.sub_self] at hx
          exact (Option.some.inj hx).symm
        have hxy : (!eqSta x ⟨p, 1, 0, 0⟩) = false := by rw [hxe]; unfold eqSta; rw [decide_eq_true rfl]; rfl
        have k0 : (0 : Int) ≤ (n0 : Int) := by omega
        have k1 : (n0 : Int) < ((n0 + 1 : Nat) : Int) := by omega
        have qn : (((n0 + 1 : Nat) : Int) != (n0 : Int) + 1) = false := by simp
        have k1' : (n0 : Int) < (n0 : Int) + 1 := by omega
        have qm : ((m0 : Int) != (m0 : Int)) = false := by simp
        have hwn : IntKind.i64.wrap ((n0 : Int) + 1) = (n0 : Int) + 1 := IntWalk.i64_in _ (by omega)
        have HRdd := Lib.hid (range_grew HRd.out (Grew.refl w8).drew)
        have HR1d := Lib.hid (range_grew HR1.out (Grew.refl w8).drew)
        have HRpd := Lib.hid (range_grew HRp.out (Grew.refl w8).drew)
        have HDdd := Lib.hid (HD.out.grew (Grew.refl w8).drew)
        have HD1d := Lib.hid (HD1.out.grew (Grew.refl w8).drew)
        subst hAx
        clear hx hss han hxe
        have hC : ∀ w', Grew w8.drew w' → (w'.cell? ⟨b1, 0, none⟩ = some (.slice A0 n0 c0) ∧ w'.cell? ⟨b1, 1, none⟩ = some (.slice B0 m0 e0)) ∧ (w'.cell? ⟨b8, 0, none⟩ = some (.slice (some ⟨b, o, none⟩) (n0 + 1) c1) ∧ w'.cell? ⟨b8, 1, none⟩ = some (.slice B1 m0 e1)) ∧ (w'.cell? ⟨b2, 0, none⟩ = some (.int .i64 p.id) ∧ w'.cell? ⟨b2, 1, none⟩ = some (.string p.acc) ∧ w'.cell? ⟨b2, 2, none⟩ = some (.int .i64 p.c) ∧ w'.cell? ⟨b2, 3, none⟩ = some (.int .i64 p.d)) ∧ (w'.cell? ⟨b, o + n0 * 7, none⟩ = some (.int .i64 x.p.id) ∧ w'.cell? ⟨b, o + n0 * 7 + 1, none⟩ = some (.string x.p.acc) ∧ w'.cell? ⟨b, o + n0 * 7 + 2, none⟩ = some (.int .i64 x.p.c) ∧ w'.cell? ⟨b, o + n0 * 7 + 3, none⟩ = some (.int .i64 x.p.d) ∧ w'.cell? ⟨b, o + n0 * 7 + 4, none⟩ = some (.int .i64 x.st) ∧ w'.cell? ⟨b, o + n0 * 7 + 5, none⟩ = some (.int .i64 x.pd) ∧ w'.cell? ⟨b, o + n0 * 7 + 6, none⟩ = some (.int .i64 x.bk)) := fun w' g' => ⟨d_cells (range_grew HRdd.out g'), d_cells (range_grew HR1d.out g'), p_cells0 (range_grew HRpd.out g'), s_cells (range_grew hr g')⟩
        clear hr
        refine wp_region_seq (by kernel_rfl) Grew.refl (fun _ _ _ => Grew.trans) (fun _ _ _ _ _ h => h) (by kernel_rfl) ?_
        repeat (first
          | (refine TakeAll.pure (v := ?_) (by rfl) ?_ ?_; rotate_left; (intro w' g'; obtain ⟨⟨hC0_0, hC0_1⟩, ⟨hC1_0, hC1_1⟩, ⟨hC2_0, hC2_1, hC2_2, hC2_3⟩, ⟨hC3_0, hC3_1, hC3_2, hC3_3, hC3_4, hC3_5, hC3_6⟩⟩ := hC w' g'; go_simp; first | done | with_reducible rfl); (simp only [Act.put, List.setIfInBounds_toArray, List.set_cons_zero, List.set_cons_succ]))
          | (refine TakeAll.skip (by rfl) ?_; (simp only [Act.put, List.setIfInBounds_toArray, List.set_cons_zero, List.set_cons_succ])))
        refine TakeAll.call (by rfl) 22 _ (fun _ => by go_simp; first | done | rfl) (fun w' g' => rvalid_val (HD1d.out.grew g') HV1.out) ?_
        simp only [Act.put, List.setIfInBounds_toArray, List.set_cons_zero, List.set_cons_succ]
        repeat (first
          | (refine TakeAll.pure (v := ?_) (by rfl) ?_ ?_; rotate_left; (intro w' g'; obtain ⟨⟨hC0_0, hC0_1⟩, ⟨hC1_0, hC1_1⟩, ⟨hC2_0, hC2_1, hC2_2, hC2_3⟩, ⟨hC3_0, hC3_1, hC3_2, hC3_3, hC3_4, hC3_5, hC3_6⟩⟩ := hC w' g'; go_simp; first | done | with_reducible rfl); (simp only [Act.put, List.setIfInBounds_toArray, List.set_cons_zero, List.set_cons_succ]))
          | (refine TakeAll.skip (by rfl) ?_; (simp only [Act.put, List.setIfInBounds_toArray, List.set_cons_zero, List.set_cons_succ])))
        refine TakeAll.pure (v := .bool false) (by rfl) (fun w' _ => exec_neq43 (a := x) (b := ⟨p, 1, 0, 0⟩) hxy rfl rfl rfl w') ?_
        simp only [Act.put, List.setIfInBounds_toArray, List.set_cons_zero, List.set_cons_succ]
        repeat (first
          | (refine TakeAll.pure (v := ?_) (by rfl) ?_ ?_; rotate_left; (intro w' g'; obtain ⟨⟨hC0_0, hC0_1⟩, ⟨hC1_0, hC1_1⟩, ⟨hC2_0, hC2_1, hC2_2, hC2_3⟩, ⟨hC3_0, hC3_1, hC3_2, hC3_3, hC3_4, hC3_5, hC3_6⟩⟩ := hC w' g'; go_simp; first | done | with_reducible rfl); (simp only [Act.put, List.setIfInBounds_toArray, List.set_cons_zero, List.set_cons_succ]))
          | (refine TakeAll.skip (by rfl) ?_; (simp only [Act.put, List.setIfInBounds_toArray, List.set_cons_zero, List.set_cons_succ])))
        refine TakeAll.call (by rfl) 23 _ (fun _ => by go_simp; first | done | rfl) (fun w' g' => (others_any _ _ _ _ _ _ _ _ _ _ _ _ d d1 p.id _ (HDdd.out.grew g') (HD1d.out.grew g') (by omega) (by omega)).mono (fun r wz hh => by rw [HO1.out] at hh; exact hh)) ?_
        simp only [Act.put, List.setIfInBounds_toArray, List.set_cons_zero, List.set_cons_succ]
        repeat (first
          | (refine TakeAll.pure (v := ?_) (by rfl) ?_ ?_; rotate_left; (intro w' g'; obtain ⟨⟨hC0_0, hC0_1⟩, ⟨hC1_0, hC1_1⟩, ⟨hC2_0, hC2_1, hC2_2, hC2_3⟩, ⟨hC3_0, hC3_1, hC3_2, hC3_3, hC3_4, hC3_5, hC3_6⟩⟩ := hC w' g'; go_simp; first | done | with_reducible rfl); (simp only [Act.put, List.setIfInBounds_toArray, List.set_cons_zero, List.set_cons_succ]))
          | (refine TakeAll.skip (by rfl) ?_; (simp only [Act.put, List.setIfInBounds_toArray, List.set_cons_zero, List.set_cons_succ])))
        refine TakeAll.nil ?_
        intro wq gq
        clear hC HRdd HR1d HRpd HDdd HD1d
        have g := (Grew.refl w8).drew.trans gq
        clear gq
        replace HRd := Lib.hid (range_grew HRd.out g)
        replace HRp := Lib.hid (range_grew HRp.out g)
        replace HRa := Lib.hid (range_grew HRa.out g)
        replace HR1 := Lib.hid (range_grew HR1.out g)
        replace HD := Lib.hid (HD.out.grew g)
        replace HD1 := Lib.hid (HD1.out.grew g)
        replace gg := gg.trans g
        clear g
        obtain ⟨z2, hz2⟩ : ∃ z, applyE d a = z := ⟨_, rfl⟩
        obtain ⟨d2, hd2⟩ : ∃ z, applyD d a = z := ⟨_, rfl⟩
        obtain ⟨z5_0, z5_1⟩ := d_cells HRd.out
        obtain ⟨z6_0, z6_1, z6_2, z6_3, z6_4⟩ := a_cells0 HRa.out
        go_wp2_with fail
        clear z5_0 z5_1 z6_0 z6_1 z6_2 z6_3 z6_4
        refine (apply_val HD.out hz2 hd2).mono ?_
        rintro r w9 ⟨A2, n2, c2, B2, m2, e2, rfl, hk2, g⟩
        replace HRd := Lib.hid (range_grew HRd.out g)
        replace HRp := Lib.hid (range_grew HRp.out g)
        replace HRa := Lib.hid (range_grew HRa.out g)
        replace HR1 := Lib.hid (range_grew HR1.out g)
        replace HD := Lib.hid (HD.out.grew g)
        replace HD1 := Lib.hid (HD1.out.grew g)
        replace gg := gg.trans g
        clear g
        obtain ⟨w10, hw⟩ : ∃ y, y = w9.alloc (.cells #[.slice A2 n2 c2, .slice B2 m2 e2] 25) := ⟨_, rfl⟩
        have g : Grew w9 w10 := by rw [hw]; exact (Grew.refl _).alloc _
        obtain ⟨b10, hb⟩ : ∃ z, z = w9.heap.size := ⟨_, rfl⟩
        have HR2 : Hid (w10.rangeAt b10 0 [.slice A2 n2 c2, .slice B2 m2 e2]) := by unfold Hid; rw [hw, hb]; exact range_new w9 _ 25
        have HD2 := Lib.hid (hk2.grew g)
        clear hk2
        replace HRd := Lib.hid (range_grew HRd.out g)
        replace HRp := Lib.hid (range_grew HRp.out g)
        replace HRa := Lib.hid (range_grew HRa.out g)
        replace HR1 := Lib.hid (range_grew HR1.out g)
        replace HD := Lib.hid (HD.out.grew g)
        replace HD1 := Lib.hid (HD1.out.grew g)
        replace gg := gg.trans g
        clear g
        go_upto_region 10 with (fail)
        rw [← hw, ← hb]
        clear hw hb
        rcases (Decidable.em (z2 = 0)).symm with hz | hz
        · have q : (z2 != (0 : Int)) = true := by simpa using hz
          have hn2 : n2 = 0 := by rw [← HD2.out.1.1.1, ← hd2, apply_bad (by rw [hz2]; exact hz)]; rfl
          subst hn2
          clear hz hz2 hd2
          obtain ⟨z7_0, z7_1⟩ := d_cells HR2.out
          go_wp2_with fail
          go_ret
          exact ⟨rfl, gg⟩
        · subst hz
          have q : ((0 : Int) != 0) = false := rfl
          have HA2 := Lib.hid (app_res hz2)
          have HO2 := Lib.hid (apply_others hz2)
          have HL2 := Lib.hid (apply_len hz2)
          have HK2 := Lib.hid (ans_kept hz2)
          rw [hd2] at HA2 HO2 HL2 HK2
          have LC := Lib.hid HD2.out.1.1.1
          have LE := Lib.hid HD2.out.2.1
          have hnn : n0 = n2 := by rw [← LC.out, HL2.out, LA.out]
          have hmm : m2 ≤ m0 + 1 := by rw [← LE.out, ← LB.out]; exact HA2.out.2.2.2.2
          have hm61 : m2 ≤ 61 := by omega
          subst hnn
          clear hz2 hd2
          have wt := w10
          clear wt
          obtain ⟨z7_0, z7_1⟩ := d_cells HR2.out
          go_wp2_with fail
          clear z7_0 z7_1
          go_loopw [13, 93] (fun v i y => ∃ k : Nat, k ≤ m2 ∧ i = .int .i64 k ∧ v = .int .i64 (goK d.an (d2.an.take k) 0 : Nat) ∧ Grew w10 y) (fun _ i _ => m2 - (intOf i).toNat)
          case atStart => exact ⟨0, Nat.zero_le _, rfl, rfl, Grew.refl _⟩
          case round =>
            obtain ⟨k, hk, rfl, rfl, hg⟩ := hrel
            have hgk := goK_le d.an (d2.an.take k) 0 (Nat.zero_le _)
            rw [LB.out] at hgk
            obtain ⟨Z, hZ⟩ : ∃ Z, goK d.an (d2.an.take k) 0 = Z := ⟨_, rfl⟩
            have HZ := Lib.hid hZ
            rw [hZ] at hgk ⊢
            clear hZ
            by_cases hlt : k < m2
            · obtain ⟨b, o, x, hAx, hx, hr⟩ := (Recs.grew HD2.out.2 hg).at_ ae_ok hlt
              have HX := Lib.hid hx
              have HZ2 : Hid (goK d.an (d2.an.take (k + 1)) 0 = if d.an[Z]? = some x then Z + 1 else Z) := by unfold Hid; rw [List.take_add_one, HX.out, Option.toList_some, goK_snoc, HZ.out]
              have k0 : (0 : Int) ≤ (k : Int) := by omega
              have k1 : (k : Int) < (m2 : Int) := by omega
              obtain ⟨c0, c1, c2', c3, c4⟩ := a_cells hr
              obtain ⟨wa, hwa⟩ : ∃ y, y = wr.alloc (.cells #[.int .i64 x.q, .int .i64 x.id, .int .i64 x.k, .int .i64 x.c, .int .i64 x.d] 29) := ⟨_, rfl⟩
              have ga : Grew wr wa := by rw [hwa]; exact (Grew.refl wr).alloc _
              obtain ⟨bx, hbx⟩ : ∃ b, b = wr.heap.size := ⟨_, rfl⟩
              have HRX : Hid (wa.rangeAt bx 0 (ae x)) := by unfold Hid; rw [hwa, hbx]; exact range_new wr (ae x) 29
              have gA := hg.trans ga
              have HRd2 := Lib.hid (range_grew HRd.out gA)
              have HDa := Lib.hid (HD.out.grew gA)
              subst hAx
              clear hr hx
              go_upto_region 16 with (fail)
              rw [← hwa, ← hbx]
              clear hwa hbx c0 c1 c2' c3 c4
              by_cases hzl : Z < m0
              · obtain ⟨b', o', y, hAy, hy, hry⟩ := (Recs.grew HDa.out.2 (Grew.refl wa).drew).at_ ae_ok hzl
                have HY := Lib.hid hy
                have qz : decide ((Z : Int) < (m0 : Int)) = true := decide_eq_true (by omega)
                have z0 : (0 : Int) ≤ (Z : Int) := by omega
                have z1' : (Z : Int) < (m0 : Int) := by omega
                subst hAy
                have HRXd := Lib.hid (range_grew HRX.out (Grew.refl wa).drew)
                have HRd3 := Lib.hid (range_grew HRd2.out (Grew.refl wa).drew)
                have hC : ∀ w', Grew wa.drew w' → (w'.cell? ⟨b1, 0, none⟩ = some (.slice A0 n0 c0) ∧ w'.cell? ⟨b1, 1, none⟩ = some (.slice (some ⟨b', o', none⟩) m0 e0)) ∧ (w'.cell? ⟨bx, 0, none⟩ = some (.int .i64 x.q) ∧ w'.cell? ⟨bx, 1, none⟩ = some (.int .i64 x.id) ∧ w'.cell? ⟨bx, 2, none⟩ = some (.int .i64 x.k) ∧ w'.cell? ⟨bx, 3, none⟩ = some (.int .i64 x.c) ∧ w'.cell? ⟨bx, 4, none⟩ = some (.int .i64 x.d)) ∧ (w'.cell? ⟨b', o' + Z * 5, none⟩ = some (.int .i64 y.q) ∧ w'.cell? ⟨b', o' + Z * 5 + 1, none⟩ = some (.int .i64 y.id) ∧ w'.cell? ⟨b', o' + Z * 5 + 2, none⟩ = some (.int .i64 y.k) ∧ w'.cell? ⟨b', o' + Z * 5 + 3, none⟩ = some (.int .i64 y.c) ∧ w'.cell? ⟨b', o' + Z * 5 + 4, none⟩ = some (.int .i64 y.d)) := fun w' g' => ⟨d_cells (range_grew HRd3.out g'), a_cells0 (range_grew HRXd.out g'), a_cells (range_grew hry g')⟩
                clear HRXd HRd3 hry hy
                cases hxy : eqAns x y with
                | false =>
                  have HN : Hid (¬ d.an[Z]? = some x) := by unfold Hid; rw [HY.out]; intro h; injection h with h; exact (of_decide_eq_false hxy) h.symm
                  refine wp_region_seq (by kernel_rfl) Grew.refl (fun _ _ _ => Grew.trans) (fun _ _ _ _ _ h => h) (by kernel_rfl) ?_
                  repeat (first
                    | (refine TakeAll.pure (v := ?_) (by rfl) ?_ ?_; rotate_left; (intro w' g'; obtain ⟨⟨hC0_0, hC0_1⟩, ⟨hC1_0, hC1_1, hC1_2, hC1_3, hC1_4⟩, ⟨hC2_0, hC2_1, hC2_2, hC2_3, hC2_4⟩⟩ := hC w' g'; go_simp; first | done | with_reducible rfl); (simp only [Act.put, List.setIfInBounds_toArray, List.set_cons_zero, List.set_cons_succ]))
                    | (refine TakeAll.skip (by rfl) ?_; (simp only [Act.put, List.setIfInBounds_toArray, List.set_cons_zero, List.set_cons_succ])))
                  refine TakeAll.pure (v := .bool false) (by rfl) (fun w' _ => exec_eql29 (a := x) (b := y) hxy rfl rfl rfl w') ?_
                  simp only [Act.put, List.setIfInBounds_toArray, List.set_cons_zero, List.set_cons_succ]
                  repeat (first
                    | (refine TakeAll.pure (v := ?_) (by rfl) ?_ ?_; rotate_left; (intro w' g'; obtain ⟨⟨hC0_0, hC0_1⟩, ⟨hC1_0, hC1_1, hC1_2, hC1_3, hC1_4⟩, ⟨hC2_0, hC2_1, hC2_2, hC2_3, hC2_4⟩⟩ := hC w' g'; go_simp; first | done | with_reducible rfl); (simp only [Act.put, List.setIfInBounds_toArray, List.set_cons_zero, List.set_cons_succ]))
                    | (refine TakeAll.skip (by rfl) ?_; (simp only [Act.put, List.setIfInBounds_toArray, List.set_cons_zero, List.set_cons_succ])))
                  refine TakeAll.nil ?_
                  intro w5' g5
                  have gE := gA.drew.trans g5
                  clear hC
                  go_wp2_with fail
                  go_roundw
                  case rel => exact ⟨k + 1, by omega, by go_num, by rw [HZ2.out, if_neg HN.out], gE⟩
                  case measure => simp [intOf]; omega
                | true =>
                  have HN : Hid (d.an[Z]? = some x) := by unfold Hid; rw [HY.out, of_decide_eq_true hxy]
                  refine wp_region_seq (by kernel_rfl) Grew.refl (fun _ _ _ => Grew.trans) (fun _ _ _ _ _ h => h) (by kernel_rfl) ?_
                  repeat (first
                    | (refine TakeAll.pure (v := ?_) (by rfl) ?_ ?_; rotate_left; (intro w' g'; obtain ⟨⟨hC0_0, hC0_1⟩, ⟨hC1_0, hC1_1, hC1_2, hC1_3, hC1_4⟩, ⟨hC2_0, hC2_1, hC2_2, hC2_3, hC2_4⟩⟩ := hC w' g'; go_simp; first | done | with_reducible rfl); (simp only [Act.put, List.setIfInBounds_toArray, List.set_cons_zero, List.set_cons_succ]))
                    | (refine TakeAll.skip (by rfl) ?_; (simp only [Act.put, List.setIfInBounds_toArray, List.set_cons_zero, List.set_cons_succ])))
                  refine TakeAll.pure (v := .bool true) (by rfl) (fun w' _ => exec_eql29 (a := x) (b := y) hxy rfl rfl rfl w') ?_
                  simp only [Act.put, List.setIfInBounds_toArray, List.set_cons_zero, List.set_cons_succ]
                  repeat (first
                    | (refine TakeAll.pure (v := ?_) (by rfl) ?_ ?_; rotate_left; (intro w' g'; obtain ⟨⟨hC0_0, hC0_1⟩, ⟨hC1_0, hC1_1, hC1_2, hC1_3, hC1_4⟩, ⟨hC2_0, hC2_1, hC2_2, hC2_3, hC2_4⟩⟩ := hC w' g'; go_simp; first | done | with_reducible rfl); (simp only [Act.put, List.setIfInBounds_toArray, List.set_cons_zero, List.set_cons_succ]))
                    | (refine TakeAll.skip (by rfl) ?_; (simp only [Act.put, List.setIfInBounds_toArray, List.set_cons_zero, List.set_cons_succ])))
                  refine TakeAll.nil ?_
                  intro w5' g5
                  have gE := gA.drew.trans g5
                  clear hC
                  go_wp2_with fail
                  go_roundw
                  case rel => exact ⟨k + 1, by omega, by go_num, by rw [HZ2.out, if_pos HN.out]; go_num, gE⟩
                  case measure => simp [intOf]; omega
              · have qz : decide ((Z : Int) < (m0 : Int)) = false := decide_eq_false (by omega)
                have HN : Hid (¬ d.an[Z]? = some x) := by
                  unfold Hid
                  rw [List.getElem?_eq_none (by rw [LB.out]; omega)]
                  intro h; cases h
                have HRd3 := Lib.hid (range_grew HRd2.out (Grew.refl wa).drew)
                have hC : ∀ w', Grew wa.drew w' → (w'.cell? ⟨b1, 0, none⟩ = some (.slice A0 n0 c0) ∧ w'.cell? ⟨b1, 1, none⟩ = some (.slice B0 m0 e0)) := fun w' g' => d_cells (range_grew HRd3.out g')
                refine wp_region_seq (by kernel_rfl) Grew.refl (fun _ _ _ => Grew.trans) (fun _ _ _ _ _ h => h) (by kernel_rfl) ?_
                repeat (first
                  | (refine TakeAll.pure (v := ?_) (by rfl) ?_ ?_; rotate_left; (intro w' g'; obtain ⟨hC0_0, hC0_1⟩ := hC w' g'; go_simp; first | done | with_reducible rfl); (simp only [Act.put, List.setIfInBounds_toArray, List.set_cons_zero, List.set_cons_succ]))
                  | (refine TakeAll.skip (by rfl) ?_; (simp only [Act.put, List.setIfInBounds_toArray, List.set_cons_zero, List.set_cons_succ])))
                refine TakeAll.nil ?_
                intro w5' g5
                have gE := gA.drew.trans g5
                clear hC
                go_wp2_with fail
                go_roundw
                case rel => exact ⟨k + 1, by omega, by go_num, by rw [HZ2.out, if_neg HN.out], gE⟩
                case measure => simp [intOf]; omega
            · obtain rfl : m2 = k := by omega
              have hzm : Z = m0 := by rw [← HZ.out, ← LE.out, List.take_length, HK2.out, LB.out]
              subst hzm
              have qk : ((Z : Int) == (Z : Int)) = true := by simp
              have qn : ((n0 : Int) == (n0 : Int)) = true := by simp
              have qm : decide ((m2 : Int) ≤ (Z : Int) + 1) = true := decide_eq_true (by omega)
              have g := hg
              replace HRd := Lib.hid (range_grew HRd.out g)
              replace HRp := Lib.hid (range_grew HRp.out g)
              replace HRa := Lib.hid (range_grew HRa.out g)
              replace HR1 := Lib.hid (range_grew HR1.out g)
              replace HR2 := Lib.hid (range_grew HR2.out g)
              replace HD := Lib.hid (HD.out.grew g)
              replace HD1 := Lib.hid (HD1.out.grew g)
              replace HD2 := Lib.hid (HD2.out.grew g)
              replace gg := gg.trans g
              clear g hg
              obtain ⟨z8_0, z8_1⟩ := d_cells HR2.out
              go_wp2_with fail
              clear z8_0 z8_1
              refine (rvalid_val HD2.out HA2.out.1).mono ?_
              rintro r w11 ⟨rfl, g⟩
              replace HRd := Lib.hid (range_grew HRd.out g)
              replace HRp := Lib.hid (range_grew HRp.out g)
              replace HRa := Lib.hid (range_grew HRa.out g)
              replace HR1 := Lib.hid (range_grew HR1.out g)
              replace HR2 := Lib.hid (range_grew HR2.out g)
              replace HD := Lib.hid (HD.out.grew g)
              replace HD1 := Lib.hid (HD1.out.grew g)
              replace HD2 := Lib.hid (HD2.out.grew g)
              replace gg := gg.trans g
              clear g
              obtain ⟨z9_0, z9_1⟩ := d_cells HR2.out
              obtain ⟨z10_0, z10_1⟩ := d_cells HRd.out
              obtain ⟨z11_0, z11_1, z11_2, z11_3, z11_4⟩ := a_cells0 HRa.out
              go_wp2_with fail
              clear z9_0 z9_1 z10_0 z10_1 z11_0 z11_1 z11_2 z11_3 z11_4
              refine ((others_any _ _ _ _ _ _ _ _ _ _ _ _ d d2 a.id _ HD.out HD2.out (by omega) (by omega))).mono ?_
              rintro r w12 ⟨rfl, g⟩
              rw [HO2.out]
              replace HRd := Lib.hid (range_grew HRd.out g)
              replace HRp := Lib.hid (range_grew HRp.out g)
              replace HRa := Lib.hid (range_grew HRa.out g)
              replace HR1 := Lib.hid (range_grew HR1.out g)
              replace HR2 := Lib.hid (range_grew HR2.out g)
              replace HD := Lib.hid (HD.out.grew g)
              replace HD1 := Lib.hid (HD1.out.grew g)
              replace HD2 := Lib.hid (HD2.out.grew g)
              replace gg := gg.trans g
              clear g
              obtain ⟨z12_0, z12_1⟩ := d_cells HR2.out
              obtain ⟨z13_0, z13_1⟩ := d_cells HRd.out
              go_wp2_with fail
              go_ret
              exact ⟨rfl, gg⟩
      · have q : (z1 == (0 : Int)) = false := by simpa using hz
        clear hz1 hd1
        obtain ⟨z2, hz2⟩ : ∃ z, applyE d a = z := ⟨_, rfl⟩
        obtain ⟨d2, hd2⟩ : ∃ z, applyD d a = z := ⟨_, rfl⟩
        obtain ⟨z4_0, z4_1⟩ := d_cells HRd.out
        obtain ⟨z5_0, z5_1, z5_2, z5_3, z5_4⟩ := a_cells0 HRa.out
        go_wp2_with fail
        clear z4_0 z4_1 z5_0 z5_1 z5_2 z5_3 z5_4
        refine (apply_val HD.out hz2 hd2).mono ?_
        rintro r w9 ⟨A2, n2, c2, B2, m2, e2, rfl, hk2, g⟩
        replace HRd := Lib.hid (range_grew HRd.out g)
        replace HRp := Lib.hid (range_grew HRp.out g)
        replace HRa := Lib.hid (range_grew HRa.out g)
        replace HR1 := Lib.hid (range_grew HR1.out g)
        replace HD := Lib.hid (HD.out.grew g)
        replace HD1 := Lib.hid (HD1.out.grew g)
        replace gg := gg.trans g
        clear g
        obtain ⟨w10, hw⟩ : ∃ y, y = w9.alloc (.cells #[.slice A2 n2 c2, .slice B2 m2 e2] 25) := ⟨_, rfl⟩
        have g : Grew w9 w10 := by rw [hw]; exact (Grew.refl _).alloc _
        obtain ⟨b10, hb⟩ : ∃ z, z = w9.heap.size := ⟨_, rfl⟩
        have HR2 : Hid (w10.rangeAt b10 0 [.slice A2 n2 c2, .slice B2 m2 e2]) := by unfold Hid; rw [hw, hb]; exact range_new w9 _ 25
        have HD2 := Lib.hid (hk2.grew g)
        clear hk2
        replace HRd := Lib.hid (range_grew HRd.out g)
        replace HRp := Lib.hid (range_grew HRp.out g)
        replace HRa := Lib.hid (range_grew HRa.out g)
        replace HR1 := Lib.hid (range_grew HR1.out g)
        replace HD := Lib.hid (HD.out.grew g)
        replace HD1 := Lib.hid (HD1.out.grew g)
        replace gg := gg.trans g
        clear g
        go_upto_region 10 with (fail)
        rw [← hw, ← hb]
        clear hw hb
        rcases (Decidable.em (z2 = 0)).symm with hz | hz
        · have q : (z2 != (0 : Int)) = true := by simpa using hz
          have hn2 : n2 = 0 := by rw [← HD2.out.1.1.1, ← hd2, apply_bad (by rw [hz2]; exact hz)]; rfl
          subst hn2
          clear hz hz2 hd2
          obtain ⟨z6_0, z6_1⟩ := d_cells HR2.out
          go_wp2_with fail
          go_ret
          exact ⟨rfl, gg⟩
        · subst hz
          have q : ((0 : Int) != 0) = false := rfl
          have HA2 := Lib.hid (app_res hz2)
          have HO2 := Lib.hid (apply_others hz2)
          have HL2 := Lib.hid (apply_len hz2)
          have HK2 := Lib.hid (ans_kept hz2)
          rw [hd2] at HA2 HO2 HL2 HK2
          have LC := Lib.hid HD2.out.1.1.1
          have LE := Lib.hid HD2.out.2.1
          have hnn : n0 = n2 := by rw [← LC.out, HL2.out, LA.out]
          have hmm : m2 ≤ m0 + 1 := by rw [← LE.out, ← LB.out]; exact HA2.out.2.2.2.2
          have hm61 : m2 ≤ 61 := by omega
          subst hnn
          clear hz2 hd2
          have wt := w10
          clear wt
          obtain ⟨z6_0, z6_1⟩ := d_cells HR2.out
          go_wp2_with fail
          clear z6_0 z6_1
          go_loopw [13, 93] (fun v i y => ∃ k : Nat, k ≤ m2 ∧ i = .int .i64 k ∧ v = .int .i64 (goK d.an (d2.an.take k) 0 : Nat) ∧ Grew w10 y) (fun _ i _ => m2 - (intOf i).toNat)
          case atStart => exact ⟨0, Nat.zero_le _, rfl, rfl, Grew.refl _⟩
          case round =>
            obtain ⟨k, hk, rfl, rfl, hg⟩ := hrel
            have hgk := goK_le d.an (d2.an.take k) 0 (Nat.zero_le _)
            rw [LB.out] at hgk
            obtain ⟨Z, hZ⟩ : ∃ Z, goK d.an (d2.an.take k) 0 = Z := ⟨_, rfl⟩
            have HZ := Lib.hid hZ
            rw [hZ] at hgk ⊢
            clear hZ
            by_cases hlt : k < m2
            · obtain ⟨b, o, x, hAx, hx, hr⟩ := (Recs.grew HD2.out.2 hg).at_ ae_ok hlt
              have HX := Lib.hid hx
              have HZ2 : Hid (goK d.an (d2.an.take (k + 1)) 0 = if d.an[Z]? = some x then Z + 1 else Z) := by unfold Hid; rw [List.take_add_one, HX.out, Option.toList_some, goK_snoc, HZ.out]
              have k0 : (0 : Int) ≤ (k : Int) := by omega
              have k1 : (k : Int) < (m2 : Int) := by omega
              obtain ⟨c0, c1, c2', c3, c4⟩ := a_cells hr
              obtain ⟨wa, hwa⟩ : ∃ y, y = wr.alloc (.cells #[.int .i64 x.q, .int .i64 x.id, .int .i64 x.k, .int .i64 x.c, .int .i64 x.d] 29) := ⟨_, rfl⟩
              have ga : Grew wr wa := by rw [hwa]; exact (Grew.refl wr).alloc _
              obtain ⟨bx, hbx⟩ : ∃ b, b = wr.heap.size := ⟨_, rfl⟩
              have HRX : Hid (wa.rangeAt bx 0 (ae x)) := by unfold Hid; rw [hwa, hbx]; exact range_new wr (ae x) 29
              have gA := hg.trans ga
              have HRd2 := Lib.hid (range_grew HRd.out gA)
              have HDa := Lib.hid (HD.out.grew gA)
              subst hAx
              clear hr hx
              go_upto_region 16 with (fail)
              rw [← hwa, ← hbx]
              clear hwa hbx c0 c1 c2' c3 c4
              by_cases hzl : Z < m0
              · obtain ⟨b', o', y, hAy, hy, hry⟩ := (Recs.grew HDa.out.2 (Grew.refl wa).drew).at_ ae_ok hzl
                have HY := Lib.hid hy
                have qz : decide ((Z : Int) < (m0 : Int)) = true := decide_eq_true (by omega)
                have z0 : (0 : Int) ≤ (Z : Int) := by omega
                have z1' : (Z : Int) < (m0 : Int) := by omega
                subst hAy
                have HRXd := Lib.hid (range_grew HRX.out (Grew.refl wa).drew)
                have HRd3 := Lib.hid (range_grew HRd2.out (Grew.refl wa).drew)
                have hC : ∀ w', Grew wa.drew w' → (w'.cell? ⟨b1, 0, none⟩ = some (.slice A0 n0 c0) ∧ w'.cell? ⟨b1, 1, none⟩ = some (.slice (some ⟨b', o', none⟩) m0 e0)) ∧ (w'.cell? ⟨bx, 0, none⟩ = some (.int .i64 x.q) ∧ w'.cell? ⟨bx, 1, none⟩ = some (.int .i64 x.id) ∧ w'.cell? ⟨bx, 2, none⟩ = some (.int .i64 x.k) ∧ w'.cell? ⟨bx, 3, none⟩ = some (.int .i64 x.c) ∧ w'.cell? ⟨bx, 4, none⟩ = some (.int .i64 x.d)) ∧ (w'.cell? ⟨b', o' + Z * 5, none⟩ = some (.int .i64 y.q) ∧ w'.cell? ⟨b', o' + Z * 5 + 1, none⟩ = some (.int .i64 y.id) ∧ w'.cell? ⟨b', o' + Z * 5 + 2, none⟩ = some (.int .i64 y.k) ∧ w'.cell? ⟨b', o' + Z * 5 + 3, none⟩ = some (.int .i64 y.c) ∧ w'.cell? ⟨b', o' + Z * 5 + 4, none⟩ = some (.int .i64 y.d)) := fun w' g' => ⟨d_cells (range_grew HRd3.out g'), a_cells0 (range_grew HRXd.out g'), a_cells (range_grew hry g')⟩
                clear HRXd HRd3 hry hy
                cases hxy : eqAns x y with
                | false =>
                  have HN : Hid (¬ d.an[Z]? = some x) := by unfold Hid; rw [HY.out]; intro h; injection h with h; exact (of_decide_eq_false hxy) h.symm
                  refine wp_region_seq (by kernel_rfl) Grew.refl (fun _ _ _ => Grew.trans) (fun _ _ _ _ _ h => h) (by kernel_rfl) ?_
                  repeat (first
                    | (refine TakeAll.pure (v := ?_) (by rfl) ?_ ?_; rotate_left; (intro w' g'; obtain ⟨⟨hC0_0, hC0_1⟩, ⟨hC1_0, hC1_1, hC1_2, hC1_3, hC1_4⟩, ⟨hC2_0, hC2_1, hC2_2, hC2_3, hC2_4⟩⟩ := hC w' g'; go_simp; first | done | with_reducible rfl); (simp only [Act.put, List.setIfInBounds_toArray, List.set_cons_zero, List.set_cons_succ]))
                    | (refine TakeAll.skip (by rfl) ?_; (simp only [Act.put, List.setIfInBounds_toArray, List.set_cons_zero, List.set_cons_succ])))
                  refine TakeAll.pure (v := .bool false) (by rfl) (fun w' _ => exec_eql29 (a := x) (b := y) hxy rfl rfl rfl w') ?_
                  simp only [Act.put, List.setIfInBounds_toArray, List.set_cons_zero, List.set_cons_succ]
                  repeat (first
                    | (refine TakeAll.pure (v := ?_) (by rfl) ?_ ?_; rotate_left; (intro w' g'; obtain ⟨⟨hC0_0, hC0_1⟩, ⟨hC1_0, hC1_1, hC1_2, hC1_3, hC1_4⟩, ⟨hC2_0, hC2_1, hC2_2, hC2_3, hC2_4⟩⟩ := hC w' g'; go_simp; first | done | with_reducible rfl); (simp only [Act.put, List.setIfInBounds_toArray, List.set_cons_zero, List.set_cons_succ]))
                    | (refine TakeAll.skip (by rfl) ?_; (simp only [Act.put, List.setIfInBounds_toArray, List.set_cons_zero, List.set_cons_succ])))
                  refine TakeAll.nil ?_
                  intro w5' g5
                  have gE := gA.drew.trans g5
                  clear hC
                  go_wp2_with fail
                  go_roundw
                  case rel => exact ⟨k + 1, by omega, by go_num, by rw [HZ2.out, if_neg HN.out], gE⟩
                  case measure => simp [intOf]; omega
                | true =>
                  have HN : Hid (d.an[Z]? = some x) := by unfold Hid; rw [HY.out, of_decide_eq_true hxy]
                  refine wp_region_seq (by kernel_rfl) Grew.refl (fun _ _ _ => Grew.trans) (fun _ _ _ _ _ h => h) (by kernel_rfl) ?_
                  repeat (first
                    | (refine TakeAll.pure (v := ?_) (by rfl) ?_ ?_; rotate_left; (intro w' g'; obtain ⟨⟨hC0_0, hC0_1⟩, ⟨hC1_0, hC1_1, hC1_2, hC1_3, hC1_4⟩, ⟨hC2_0, hC2_1, hC2_2, hC2_3, hC2_4⟩⟩ := hC w' g'; go_simp; first | done | with_reducible rfl); (simp only [Act.put, List.setIfInBounds_toArray, List.set_cons_zero, List.set_cons_succ]))
                    | (refine TakeAll.skip (by rfl) ?_; (simp only [Act.put, List.setIfInBounds_toArray, List.set_cons_zero, List.set_cons_succ])))
                  refine TakeAll.pure (v := .bool true) (by rfl) (fun w' _ => exec_eql29 (a := x) (b := y) hxy rfl rfl rfl w') ?_
                  simp only [Act.put, List.setIfInBounds_toArray, List.set_cons_zero, List.set_cons_succ]
                  repeat (first
                    | (refine TakeAll.pure (v := ?_) (by rfl) ?_ ?_; rotate_left; (intro w' g'; obtain ⟨⟨hC0_0, hC0_1⟩, ⟨hC1_0, hC1_1, hC1_2, hC1_3, hC1_4⟩, ⟨hC2_0, hC2_1, hC2_2, hC2_3, hC2_4⟩⟩ := hC w' g'; go_simp; first | done | with_reducible rfl); (simp only [Act.put, List.setIfInBounds_toArray, List.set_cons_zero, List.set_cons_succ]))
                    | (refine TakeAll.skip (by rfl) ?_; (simp only [Act.put, List.setIfInBounds_toArray, List.set_cons_zero, List.set_cons_succ])))
                  refine TakeAll.nil ?_
                  intro w5' g5
                  have gE := gA.drew.trans g5
                  clear hC
                  go_wp2_with fail
                  go_roundw
                  case rel => exact ⟨k + 1, by omega, by go_num, by rw [HZ2.out, if_pos HN.out]; go_num, gE⟩
                  case measure => simp [intOf]; omega
              · have qz : decide ((Z : Int) < (m0 : Int)) = false := decide_eq_false (by omega)
                have HN : Hid (¬ d.an[Z]? = some x) := by
                  unfold Hid
                  rw [List.getElem?_eq_none (by rw [LB.out]; omega)]
                  intro h; cases h
                have HRd3 := Lib.hid (range_grew HRd2.out (Grew.refl wa).drew)
                have hC : ∀ w', Grew wa.drew w' → (w'.cell? ⟨b1, 0, none⟩ = some (.slice A0 n0 c0) ∧ w'.cell? ⟨b1, 1, none⟩ = some (.slice B0 m0 e0)) := fun w' g' => d_cells (range_grew HRd3.out g')
                refine wp_region_seq (by kernel_rfl) Grew.refl (fun _ _ _ => Grew.trans) (fun _ _ _ _ _ h => h) (by kernel_rfl) ?_
                repeat (first
                  | (refine TakeAll.pure (v := ?_) (by rfl) ?_ ?_; rotate_left; (intro w' g'; obtain ⟨hC0_0, hC0_1⟩ := hC w' g'; go_simp; first | done | with_reducible rfl); (simp only [Act.put, List.setIfInBounds_toArray, List.set_cons_zero, List.set_cons_succ]))
                  | (refine TakeAll.skip (by rfl) ?_; (simp only [Act.put, List.setIfInBounds_toArray, List.set_cons_zero, List.set_cons_succ])))
                refine TakeAll.nil ?_
                intro w5' g5
                have gE := gA.drew.trans g5
                clear hC
                go_wp2_with fail
                go_roundw
                case rel => exact ⟨k + 1, by omega, by go_num, by rw [HZ2.out, if_neg HN.out], gE⟩
                case measure => simp [intOf]; omega
            · obtain rfl : m2 = k := by omega
              have hzm : Z = m0 := by rw [← HZ.out, ← LE.out, List.take_length, HK2.out, LB.out]
              subst hzm
              have qk : ((Z : Int) == (Z : Int)) = true := by simp
              have qn : ((n0 : Int) == (n0 : Int)) = true := by simp
              have qm : decide ((m2 : Int) ≤ (Z : Int) + 1) = true := decide_eq_true (by omega)
              have g := hg
              replace HRd := Lib.hid (range_grew HRd.out g)
              replace HRp := Lib.hid (range_grew HRp.out g)
              replace HRa := Lib.hid (range_grew HRa.out g)
              replace HR1 := Lib.hid (range_grew HR1.out g)
              replace HR2 := Lib.hid (range_grew HR2.out g)
              replace HD := Lib.hid (HD.out.grew g)
              replace HD1 := Lib.hid (HD1.out.grew g)
              replace HD2 := Lib.hid (HD2.out.grew g)
              replace gg := gg.trans g
              clear g hg
              obtain ⟨z7_0, z7_1⟩ := d_cells HR2.out
              go_wp2_with fail
              clear z7_0 z7_1
              refine (rvalid_val HD2.out HA2.out.1).mono ?_
              rintro r w11 ⟨rfl, g⟩
              replace HRd := Lib.hid (range_grew HRd.out g)
              replace HRp := Lib.hid (range_grew HRp.out g)
              replace HRa := Lib.hid (range_grew HRa.out g)
              replace HR1 := Lib.hid (range_grew HR1.out g)
              replace HR2 := Lib.hid (range_grew HR2.out g)
              replace HD := Lib.hid (HD.out.grew g)
              replace HD1 := Lib.hid (HD1.out.grew g)
              replace HD2 := Lib.hid (HD2.out.grew g)
              replace gg := gg.trans g
              clear g
              obtain ⟨z8_0, z8_1⟩ := d_cells HR2.out
              obtain ⟨z9_0, z9_1⟩ := d_cells HRd.out
              obtain ⟨z10_0, z10_1, z10_2, z10_3, z10_4⟩ := a_cells0 HRa.out
              go_wp2_with fail
              clear z8_0 z8_1 z9_0 z9_1 z10_0 z10_1 z10_2 z10_3 z10_4
              refine ((others_any _ _ _ _ _ _ _ _ _ _ _ _ d d2 a.id _ HD.out HD2.out (by omega) (by omega))).mono ?_
              rintro r w12 ⟨rfl, g⟩
              rw [HO2.out]
              replace HRd := Lib.hid (range_grew HRd.out g)
              replace HRp := Lib.hid (range_grew HRp.out g)
              replace HRa := Lib.hid (range_grew HRa.out g)
              replace HR1 := Lib.hid (range_grew HR1.out g)
              replace HR2 := Lib.hid (range_grew HR2.out g)
              replace HD := Lib.hid (HD.out.grew g)
              replace HD1 := Lib.hid (HD1.out.grew g)
              replace HD2 := Lib.hid (HD2.out.grew g)
              replace gg := gg.trans g
              clear g
              obtain ⟨z11_0, z11_1⟩ := d_cells HR2.out
              obtain ⟨z12_0, z12_1⟩ := d_cells HRd.out
              go_wp2_with fail
              go_ret
              exact ⟨rfl, gg⟩
end Go.Proofs.Ytaocjobbfcfleaa
