/-
  SettleOnce: the law's walk.
-/
import Derived.Test.YtaocjobbfcfleaaLSm
namespace Go.Proofs.Ytaocjobbfcfleaa
open Go.RowKit Go.Proofs WageMem WageOrd WageRec WageMap WageReg WageSet
set_option maxRecDepth 100000 in
set_option maxHeartbeats 16000000 in
theorem once_law (A0 : Option Addr) (n0 c0 : Nat) (B0 : Option Addr) (m0 e0 : Nat) (d : Desk) (a b : Ans) (w : World) (h : DeskIs w A0 n0 c0 B0 m0 e0 d) : Calls Try.prog 5 #[.agg #[.slice A0 n0 c0, .slice B0 m0 e0], av a, av b] w fun e w' => e = .returned (.bool true) ∧ Grew w w' := by
  have HD := Lib.hid h
  clear h
  show Calls Try.prog 5 #[.agg #[.slice A0 n0 c0, .slice B0 m0 e0], .agg #[.int .i64 a.q, .int .i64 a.id, .int .i64 a.k, .int .i64 a.c, .int .i64 a.d], .agg #[.int .i64 b.q, .int .i64 b.id, .int .i64 b.k, .int .i64 b.c, .int .i64 b.d]] w _
  obtain ⟨b1, hb0⟩ : ∃ b, b = w.heap.size := ⟨_, rfl⟩
  obtain ⟨w1, hw0⟩ : ∃ x, x = w.alloc (.cells #[.slice A0 n0 c0, .slice B0 m0 e0] 25) := ⟨_, rfl⟩
  have g0 : Grew w w1 := by rw [hw0]; exact (Grew.refl w).alloc _
  have sz0 : w1.heap.size = w.heap.size + 1 := by rw [hw0]; simp
  obtain ⟨b2, hb1⟩ : ∃ b, b = w.heap.size + 1 := ⟨_, rfl⟩
  obtain ⟨w2, hw1⟩ : ∃ x, x = w1.alloc (.cells #[.int .i64 a.q, .int .i64 a.id, .int .i64 a.k, .int .i64 a.c, .int .i64 a.d] 29) := ⟨_, rfl⟩
  have g1 : Grew w1 w2 := by rw [hw1]; exact (Grew.refl w1).alloc _
  have sz1 : w2.heap.size = w.heap.size + 1 + 1 := by rw [hw1]; simp [sz0]
  obtain ⟨b3, hb2⟩ : ∃ b, b = w.heap.size + 1 + 1 := ⟨_, rfl⟩
  obtain ⟨w3, hw2⟩ : ∃ x, x = w2.alloc (.cells #[.int .i64 b.q, .int .i64 b.id, .int .i64 b.k, .int .i64 b.c, .int .i64 b.d] 29) := ⟨_, rfl⟩
  have g2 : Grew w2 w3 := by rw [hw2]; exact (Grew.refl w2).alloc _
  have sz2 : w3.heap.size = w.heap.size + 1 + 1 + 1 := by rw [hw2]; simp [sz1]
  have HRd : Hid (w3.rangeAt b1 0 [.slice A0 n0 c0, .slice B0 m0 e0]) := by
    unfold Hid
    rw [hb0]
    exact range_grew (by rw [hw0]; exact range_new w _ 25) (g1.trans g2)
  have HRa : Hid (w3.rangeAt b2 0 [.int .i64 a.q, .int .i64 a.id, .int .i64 a.k, .int .i64 a.c, .int .i64 a.d]) := by
    unfold Hid
    rw [hb1, ← sz0]
    exact range_grew (by rw [hw1]; exact range_new w1 _ 29) g2
  have HRb : Hid (w3.rangeAt b3 0 [.int .i64 b.q, .int .i64 b.id, .int .i64 b.k, .int .i64 b.c, .int .i64 b.d]) := by
    unfold Hid
    rw [hb2, ← sz1]
    exact range_grew (by rw [hw2]; exact range_new w2 _ 29) (Grew.refl _)
  have gg : Grew w w3 := ((g0.trans g1).trans g2)
  clear sz0 g0 sz1 g1 sz2 g2
  go_enter Try.func5, Try.ntmps5
  go_upto_region 1 with (fail)
  rw [← hw0]
  rw [← hw1]
  rw [← hw2]
  rw [← hb2, ← hb1, ← hb0]
  clear hw0 hb0 hw1 hb1 hw2 hb2
  replace HD := Lib.hid (HD.out.grew gg)
  go_wp2_with fail
  refine (head_true _).mono ?_
  rintro r w4 ⟨rfl, g⟩
  replace HRd := Lib.hid (range_grew HRd.out g)
  replace HRa := Lib.hid (range_grew HRa.out g)
  replace HRb := Lib.hid (range_grew HRb.out g)
  replace HD := Lib.hid (HD.out.grew g)
  replace gg := gg.trans g
  clear g
  obtain ⟨tv, htv⟩ : ∃ t, smallB d = t := ⟨_, rfl⟩
  obtain ⟨z0_0, z0_1⟩ := d_cells HRd.out
  go_wp2_with fail
  clear z0_0 z0_1
  refine (small_val HD.out htv).mono ?_
  rintro r w5 ⟨rfl, g⟩
  replace HRd := Lib.hid (range_grew HRd.out g)
  replace HRa := Lib.hid (range_grew HRa.out g)
  replace HRb := Lib.hid (range_grew HRb.out g)
  replace HD := Lib.hid (HD.out.grew g)
  replace gg := gg.trans g
  clear g
  cases tv with
  | false =>
    go_wp2_with fail
    go_ret
    exact ⟨rfl, gg⟩
  | true =>
    obtain ⟨tv, hvv⟩ : ∃ t, validB d = t := ⟨_, rfl⟩
    obtain ⟨z1_0, z1_1⟩ := d_cells HRd.out
    go_wp2_with fail
    clear z1_0 z1_1
    refine (rvalid_val HD.out hvv).mono ?_
    rintro r w6 ⟨rfl, g⟩
    replace HRd := Lib.hid (range_grew HRd.out g)
    replace HRa := Lib.hid (range_grew HRa.out g)
    replace HRb := Lib.hid (range_grew HRb.out g)
    replace HD := Lib.hid (HD.out.grew g)
    replace gg := gg.trans g
    clear g
    cases tv with
    | false =>
      go_wp2_with fail
      go_ret
      exact ⟨rfl, gg⟩
    | true =>
      have HV := Lib.hid hvv
      clear hvv htv
      obtain ⟨z1, hz1⟩ : ∃ z, applyE d a = z := ⟨_, rfl⟩
      obtain ⟨d1, hd1⟩ : ∃ z, applyD d a = z := ⟨_, rfl⟩
      obtain ⟨z2_0, z2_1⟩ := d_cells HRd.out
      obtain ⟨z3_0, z3_1, z3_2, z3_3, z3_4⟩ := a_cells0 HRa.out
      go_wp2_with fail
      clear z2_0 z2_1 z3_0 z3_1 z3_2 z3_3 z3_4
      refine (apply_val HD.out hz1 hd1).mono ?_
      rintro r w7 ⟨A1, n1, c1, B1, m1, e1, rfl, hk1, g⟩
      replace HRd := Lib.hid (range_grew HRd.out g)
      replace HRa := Lib.hid (range_grew HRa.out g)
      replace HRb := Lib.hid (range_grew HRb.out g)
      replace HD := Lib.hid (HD.out.grew g)
      replace gg := gg.trans g
      clear g
      obtain ⟨w8, hw⟩ : ∃ y, y = w7.alloc (.cells #[.slice A1 n1 c1, .slice B1 m1 e1] 25) := ⟨_, rfl⟩
      have g : Grew w7 w8 := by rw [hw]; exact (Grew.refl _).alloc _
      obtain ⟨b8, hb⟩ : ∃ z, z = w7.heap.size := ⟨_, rfl⟩
      have HR1 : Hid (w8.rangeAt b8 0 [.slice A1 n1 c1, .slice B1 m1 e1]) := by unfold Hid; rw [hw, hb]; exact range_new w7 _ 25
      have HD1 := Lib.hid (hk1.grew g)
      clear hk1
      replace HRd := Lib.hid (range_grew HRd.out g)
      replace HRa := Lib.hid (range_grew HRa.out g)
      replace HRb := Lib.hid (range_grew HRb.out g)
      replace HD := Lib.hid (HD.out.grew g)
      replace gg := gg.trans g
      clear g
      go_upto_region 5 with (fail)
      rw [← hw, ← hb]
      clear hw hb
      rcases (Decidable.em (z1 = 0)).symm with hz | hz
      · have q : (z1 != (0 : Int)) = true := by simpa using hz
        go_wp2_with fail
        go_ret
        exact ⟨rfl, gg⟩
      subst hz
      have q : ((0 : Int) != 0) = false := rfl
      obtain ⟨f1, f2, f3⟩ := once hz1
      rw [hd1] at f1 f2 f3
      obtain ⟨z4_0, z4_1⟩ := d_cells HR1.out
      obtain ⟨z5_0, z5_1, z5_2, z5_3, z5_4⟩ := a_cells0 HRa.out
      go_wp2_with fail
      clear z4_0 z4_1 z5_0 z5_1 z5_2 z5_3 z5_4
      refine (apply_val HD1.out f2 f3).mono ?_
      rintro r w9 ⟨A2, n2, c2, B2, m2, e2, rfl, hk2, g⟩
      replace HRd := Lib.hid (range_grew HRd.out g)
      replace HRa := Lib.hid (range_grew HRa.out g)
      replace HRb := Lib.hid (range_grew HRb.out g)
      replace HR1 := Lib.hid (range_grew HR1.out g)
      replace HD := Lib.hid (HD.out.grew g)
      replace HD1 := Lib.hid (HD1.out.grew g)
      replace gg := gg.trans g
      clear g
      obtain ⟨w10, hw⟩ : ∃ y, y = w9.alloc (.cells #[.slice A2 n2 c2, .slice B2 m2 e2] 25) := ⟨_, rfl⟩
      have g : Grew w9 w10 := by rw [hw]; exact (Grew.refl _).alloc _
      obtain ⟨b10, hb⟩ : ∃ z, z = w9.heap.size := ⟨_, rfl⟩
      have HR2 : Hid (w10.rangeAt b10 0 [.slice A2 n2 c2, .slice B2 m2 e2]) := by unfold Hid; rw [hw, hb]; exact range_new w9 _ 25
      have HD2 := Lib.hid (hk2.grew g)
      clear hk2
      replace HRd := Lib.hid (range_grew HRd.out g)
      replace HRa := Lib.hid (range_grew HRa.out g)
      replace HRb := Lib.hid (range_grew HRb.out g)
      replace HR1 := Lib.hid (range_grew HR1.out g)
      replace HD := Lib.hid (HD.out.grew g)
      replace HD1 := Lib.hid (HD1.out.grew g)
      replace gg := gg.trans g
      clear g
      go_upto_region 8 with (fail)
      rw [← hw, ← hb]
      clear hw hb
      obtain ⟨z6_0, z6_1⟩ := d_cells HR1.out
      obtain ⟨z7_0, z7_1⟩ := d_cells HR2.out
      go_wp2_with fail
      clear z6_0 z6_1 z7_0 z7_1
      refine (same_val HD1.out HD2.out (decide_eq_true rfl)).mono ?_
      rintro r w11 ⟨rfl, g⟩
      replace HRd := Lib.hid (range_grew HRd.out g)
      replace HRa := Lib.hid (range_grew HRa.out g)
      replace HRb := Lib.hid (range_grew HRb.out g)
      replace HR1 := Lib.hid (range_grew HR1.out g)
      replace HR2 := Lib.hid (range_grew HR2.out g)
      replace HD := Lib.hid (HD.out.grew g)
      replace HD1 := Lib.hid (HD1.out.grew g)
      replace HD2 := Lib.hid (HD2.out.grew g)
      replace gg := gg.trans g
      clear g
      obtain ⟨z2, hz2⟩ : ∃ z, applyE d1 b = z := ⟨_, rfl⟩
      obtain ⟨d2, hd2⟩ : ∃ z, applyD d1 b = z := ⟨_, rfl⟩
      obtain ⟨z8_0, z8_1⟩ := d_cells HR1.out
      obtain ⟨z9_0, z9_1, z9_2, z9_3, z9_4⟩ := a_cells0 HRb.out
      go_wp2_with fail
      clear z8_0 z8_1 z9_0 z9_1 z9_2 z9_3 z9_4
      refine (apply_val HD1.out hz2 hd2).mono ?_
      rintro r w12 ⟨A3, n3, c3, B3, m3, e3, rfl, hk3, g⟩
      replace HRd := Lib.hid (range_grew HRd.out g)
      replace HRa := Lib.hid (range_grew HRa.out g)
      replace HRb := Lib.hid (range_grew HRb.out g)
      replace HR1 := Lib.hid (range_grew HR1.out g)
      replace HR2 := Lib.hid (range_grew HR2.out g)
      replace HD := Lib.hid (HD.out.grew g)
      replace HD1 := Lib.hid (HD1.out.grew g)
      replace HD2 := Lib.hid (HD2.out.grew g)
      replace gg := gg.trans g
      clear g
      obtain ⟨w13, hw⟩ : ∃ y, y = w12.alloc (.cells #[.slice A3 n3 c3, .slice B3 m3 e3] 25) := ⟨_, rfl⟩
      have g : Grew w12 w13 := by rw [hw]; exact (Grew.refl _).alloc _
      obtain ⟨b13, hb⟩ : ∃ z, z = w12.heap.size := ⟨_, rfl⟩
      have HR3 : Hid (w13.rangeAt b13 0 [.slice A3 n3 c3, .slice B3 m3 e3]) := by unfold Hid; rw [hw, hb]; exact range_new w12 _ 25
      have HD3 := Lib.hid (hk3.grew g)
      clear hk3
      replace HRd := Lib.hid (range_grew HRd.out g)
      replace HRa := Lib.hid (range_grew HRa.out g)
      replace HRb := Lib.hid (range_grew HRb.out g)
      replace HR1 := Lib.hid (range_grew HR1.out g)
      replace HR2 := Lib.hid (range_grew HR2.out g)
      replace HD := Lib.hid (HD.out.grew g)
      replace HD1 := Lib.hid (HD1.out.grew g)
      replace HD2 := Lib.hid (HD2.out.grew g)
      replace gg := gg.trans g
      clear g
      go_upto_region 11 with (fail)
      rw [← hw, ← hb]
      clear hw hb
      rcases (Decidable.em (z2 = 0)).symm with hz | hz
      · have q2 : (z2 != (0 : Int)) = true := by simpa using hz
        go_wp2_with fail
        go_ret
        exact ⟨rfl, gg⟩
      subst hz
      obtain ⟨f4, f5, f6⟩ := once_after hz1 (by rw [hd1]; exact hz2)
      rw [hd1, hd2] at f4 f5 f6
      obtain ⟨z10_0, z10_1⟩ := d_cells HR3.out
      obtain ⟨z11_0, z11_1, z11_2, z11_3, z11_4⟩ := a_cells0 HRa.out
      go_wp2_with fail
      clear z10_0 z10_1 z11_0 z11_1 z11_2 z11_3 z11_4
      refine (apply_val HD3.out f5 f6).mono ?_
      rintro r w14 ⟨A4, n4, c4, B4, m4, e4, rfl, hk4, g⟩
      replace HRd := Lib.hid (range_grew HRd.out g)
      replace HRa := Lib.hid (range_grew HRa.out g)
      replace HRb := Lib.hid (range_grew HRb.out g)
      replace HR1 := Lib.hid (range_grew HR1.out g)
      replace HR2 := Lib.hid (range_grew HR2.out g)
      replace HR3 := Lib.hid (range_grew HR3.out g)
      replace HD := Lib.hid (HD.out.grew g)
      replace HD1 := Lib.hid (HD1.out.grew g)
      replace HD2 := Lib.hid (HD2.out.grew g)
      replace HD3 := Lib.hid (HD3.out.grew g)
      replace gg := gg.trans g
      clear g
      obtain ⟨w15, hw⟩ : ∃ y, y = w14.alloc (.cells #[.slice A4 n4 c4, .slice B4 m4 e4] 25) := ⟨_, rfl⟩
      have g : Grew w14 w15 := by rw [hw]; exact (Grew.refl _).alloc _
      obtain ⟨b15, hb⟩ : ∃ z, z = w14.heap.size := ⟨_, rfl⟩
      have HR4 : Hid (w15.rangeAt b15 0 [.slice A4 n4 c4, .slice B4 m4 e4]) := by unfold Hid; rw [hw, hb]; exact range_new w14 _ 25
      have HD4 := Lib.hid (hk4.grew g)
      clear hk4
      replace HRd := Lib.hid (range_grew HRd.out g)
      replace HRa := Lib.hid (range_grew HRa.out g)
      replace HRb := Lib.hid (range_grew HRb.out g)
      replace HR1 := Lib.hid (range_grew HR1.out g)
      replace HR2 := Lib.hid (range_grew HR2.out g)
      replace HR3 := Lib.hid (range_grew HR3.out g)
      replace HD := Lib.hid (HD.out.grew g)
      replace HD1 := Lib.hid (HD1.out.grew g)
      replace HD2 := Lib.hid (HD2.out.grew g)
      replace HD3 := Lib.hid (HD3.out.grew g)
      replace gg := gg.trans g
      clear g
      go_upto_region 14 with (fail)
      rw [← hw, ← hb]
      clear hw hb
      obtain ⟨z12_0, z12_1⟩ := d_cells HR3.out
      obtain ⟨z13_0, z13_1⟩ := d_cells HR4.out
      go_wp2_with fail
      clear z12_0 z12_1 z13_0 z13_1
      refine (same_val HD3.out HD4.out (decide_eq_true rfl)).mono ?_
      rintro r w16 ⟨rfl, g⟩
      replace HRd := Lib.hid (range_grew HRd.out g)
      replace HRa := Lib.hid (range_grew HRa.out g)
      replace HRb := Lib.hid (range_grew HRb.out g)
      replace HR1 := Lib.hid (range_grew HR1.out g)
      replace HR2 := Lib.hid (range_grew HR2.out g)
      replace HR3 := Lib.hid (range_grew HR3.out g)
      replace HR4 := Lib.hid (range_grew HR4.out g)
      replace HD := Lib.hid (HD.out.grew g)
      replace HD1 := Lib.hid (HD1.out.grew g)
      replace HD2 := Lib.hid (HD2.out.grew g)
      replace HD3 := Lib.hid (HD3.out.grew g)
      replace HD4 := Lib.hid (HD4.out.grew g)
      replace gg := gg.trans g
      clear g
      go_wp2_with fail
      go_ret
      exact ⟨rfl, gg⟩
end Go.Proofs.Ytaocjobbfcfleaa
