/-
  The reference's Apply.
-/
import Derived.Test.YtaocjobbfcfleaaLawS
namespace Go.Proofs.Ytaocjobbfcfleaa
open Go.RowKit Go.Proofs WageMem WageOrd WageRec WageMap WageReg WageSet
set_option maxRecDepth 100000 in
set_option maxHeartbeats 64000000 in
theorem rapply_any (A0 : Option Addr) (n0 c0 : Nat) (B0 : Option Addr) (m0 e0 : Nat) (d : Desk) (a : Ans) (w : World) (h : DeskIs w A0 n0 c0 B0 m0 e0 d) : Calls Try.prog 14 #[.agg #[.slice A0 n0 c0, .slice B0 m0 e0], av a] w (RetD (applyE d a) (applyD d a) w) := by
  obtain ⟨i0, hi, hz0, hz1, hz2⟩ := info_parts info29
  have HD := Lib.hid h
  have HL := Lib.hid h.1.1.1
  have HLA := Lib.hid h.2.1
  have HWF := Lib.hid h.1.2
  have un := h.1.1.le
  have um := Recs.le h.2
  have hcap := h.2.2.1
  have hcm : e0 ≤ 9223372036854775807 := h.2.2.2.1
  clear h
  show Calls Try.prog 14 #[.agg #[.slice A0 n0 c0, .slice B0 m0 e0], .agg #[.int .i64 a.q, .int .i64 a.id, .int .i64 a.k, .int .i64 a.c, .int .i64 a.d]] w _
  obtain ⟨b1, hb0⟩ : ∃ b, b = w.heap.size := ⟨_, rfl⟩
  obtain ⟨w1, hw0⟩ : ∃ x, x = w.alloc (.cells #[.slice A0 n0 c0, .slice B0 m0 e0] 25) := ⟨_, rfl⟩
  have g0 : Grew w w1 := by rw [hw0]; exact (Grew.refl w).alloc _
  have sz0 : w1.heap.size = w.heap.size + 1 := by rw [hw0]; simp
  obtain ⟨b2, hb1⟩ : ∃ b, b = w.heap.size + 1 := ⟨_, rfl⟩
  obtain ⟨w2, hw1⟩ : ∃ x, x = w1.alloc (.cells #[.int .i64 a.q, .int .i64 a.id, .int .i64 a.k, .int .i64 a.c, .int .i64 a.d] 29) := ⟨_, rfl⟩
  have g1 : Grew w1 w2 := by rw [hw1]; exact (Grew.refl w1).alloc _
  have sz1 : w2.heap.size = w.heap.size + 1 + 1 := by rw [hw1]; simp [sz0]
  obtain ⟨bR, hb2⟩ : ∃ b, b = w.heap.size + 1 + 1 := ⟨_, rfl⟩
  obtain ⟨w3, hw2⟩ : ∃ x, x = w2.alloc (.cells #[.slice none 0 0, .slice none 0 0] 25) := ⟨_, rfl⟩
  have g2 : Grew w2 w3 := by rw [hw2]; exact (Grew.refl w2).alloc _
  have sz2 : w3.heap.size = w.heap.size + 1 + 1 + 1 := by rw [hw2]; simp [sz1]
  have HRd : Hid (w3.rangeAt b1 0 [.slice A0 n0 c0, .slice B0 m0 e0]) := by
    unfold Hid
    rw [hb0]
    exact range_grew (by rw [hw0]; exact range_new w _ 25) (g1.trans g2)
  have HRa : Hid (w3.rangeAt b2 0 [.int .i64 a.q, .int .i64 a.id, .int .i64 a.k, .int .i64 a.c, .int .i64 a.d]) := by
    unfold Hid
    rw [hb1, ← sz0]
    exact range_grew (by rw [hw1]; exact range_new w1 _ 29) g2
  have HB4 : Hid (w3.heap[bR]? = some (.cells #[.slice none 0 0, .slice none 0 0] 25)) := by
    unfold Hid
    rw [hb2, ← sz1, hw2]
    exact heap_alloc_new w2 _
  have hbR : w.heap.size ≤ bR := by omega
  have gg : Grew w w3 := ((g0.trans g1).trans g2)
  clear sz0 g0 sz1 g1 sz2 g2
  go_enter Try.func14, Try.ntmps14
  go_upto_region 1 with (fail)
  rw [← hw0]
  rw [← hw1]
  rw [← hw2]
  rw [← hb2, ← hb1, ← hb0]
  clear hw0 hb0 hw1 hb1 hw2 hb2
  replace HD := Lib.hid (HD.out.grew gg)
  obtain ⟨tv, hvv⟩ : ∃ t, validB d = t := ⟨_, rfl⟩
  have HV := Lib.hid hvv
  clear hvv
  obtain ⟨z0_0, z0_1⟩ := d_cells HRd.out
  go_wp2_with fail
  clear z0_0 z0_1
  refine (rvalid_val HD.out HV.out).mono ?_
  rintro r w5 ⟨rfl, g⟩
  replace HB4 := Lib.hid (g.block HB4.out)
  replace HRd := Lib.hid (range_grew HRd.out g)
  replace HRa := Lib.hid (range_grew HRa.out g)
  replace HD := Lib.hid (HD.out.grew g)
  replace gg := gg.trans g
  clear g
  cases tv with
  | false =>
    have HE : Hid (applyE d a = 1) := app_bad (by rw [HV.out]; rfl)
    have HDD := Lib.hid (appD_no HE.out (by decide))
    obtain ⟨y0, y1⟩ := d_cells (row_at (l := [.slice none 0 0, .slice none 0 0]) HB4.out)
    have f0 := row_free HB4.out 0
    have f1 := row_free HB4.out 1
    go_wp2_with fail
    refine bodyPost_ret (results_dsk rfl _ _ bR _ rfl (set2 HB4.out _ _) rfl) rfl ?_
    exact ⟨none, 0, 0, none, 0, 0, ret_dsk HE.out.symm, by rw [HDD.out]; exact desk_nil _, (gg.set hbR _).set hbR _⟩
  | true =>
    obtain ⟨tv, hvv⟩ : ∃ t, ansB a = t := ⟨_, rfl⟩
    have HP := Lib.hid hvv
    clear hvv
    obtain ⟨z1_0, z1_1, z1_2, z1_3, z1_4⟩ := a_cells0 HRa.out
    go_wp2_with fail
    clear z1_0 z1_1 z1_2 z1_3 z1_4
    refine (rans_val HP.out _).mono ?_
    rintro r w6 ⟨rfl, g⟩
    replace HB4 := Lib.hid (g.block HB4.out)
    replace HRd := Lib.hid (range_grew HRd.out g)
    replace HRa := Lib.hid (range_grew HRa.out g)
    replace HD := Lib.hid (HD.out.grew g)
    replace gg := gg.trans g
    clear g
    cases tv with
    | false =>
      have HE : Hid (applyE d a = 1) := app_bad (by rw [HV.out, HP.out]; rfl)
      have HDD := Lib.hid (appD_no HE.out (by decide))
      obtain ⟨y0, y1⟩ := d_cells (row_at (l := [.slice none 0 0, .slice none 0 0]) HB4.out)
      have f0 := row_free HB4.out 0
      have f1 := row_free HB4.out 1
      go_wp2_with fail
      refine bodyPost_ret (results_dsk rfl _ _ bR _ rfl (set2 HB4.out _ _) rfl) rfl ?_
      exact ⟨none, 0, 0, none, 0, 0, ret_dsk HE.out.symm, by rw [HDD.out]; exact desk_nil _, (gg.set hbR _).set hbR _⟩
    | true =>
      have HVP : Hid ((validB d && ansB a) = true) := by unfold Hid; rw [HV.out, HP.out]; rfl
      have hn4 : n0 ≤ 400 := by rw [← HL.out]; exact (valid_parts HV.out).1
      have hm4 : m0 ≤ 2000 := by rw [← HLA.out]; exact (valid_parts HV.out).2.1
      go_wp2_with fail
      go_loopw [6] (fun i y => ∃ k : Nat, k ≤ m0 ∧ i = .int .i64 k ∧ Hid (∀ t y, t < k → d.an[t]? = some y → y.q < a.q) ∧ Grew w6 y) (fun i _ => m0 - (intOf i).toNat)
      case atStart => exact ⟨0, Nat.zero_le _, rfl, (fun t y ht _ => by omega), Grew.refl _⟩
      case round =>
        obtain ⟨k, hk, rfl, HLT, hg⟩ := hrel
        by_cases hlt : k < m0
        · obtain ⟨b, o, y, hAy, hy, hry⟩ := (Recs.grew HD.out.2 hg.drew).at_ ae_ok hlt
          have HY := Lib.hid hy
          have k0 : (0 : Int) ≤ (k : Int) := by omega
          have k1 : (k : Int) < (m0 : Int) := by omega
          have qk : decide ((k : Int) < (m0 : Int)) = true := decide_eq_true k1
          have HRdd := Lib.hid (range_grew HRd.out hg.drew)
          have HRad := Lib.hid (range_grew HRa.out hg.drew)
          subst hAy
          clear hy
          have hC : ∀ w', Grew wr.drew w' → (w'.cell? ⟨b1, 0, none⟩ = some (.slice A0 n0 c0) ∧ w'.cell? ⟨b1, 1, none⟩ = some (.slice (some ⟨b, o, none⟩) m0 e0)) ∧ (w'.cell? ⟨b2, 0, none⟩ = some (.int .i64 a.q) ∧ w'.cell? ⟨b2, 1, none⟩ = some (.int .i64 a.id) ∧ w'.cell? ⟨b2, 2, none⟩ = some (.int .i64 a.k) ∧ w'.cell? ⟨b2, 3, none⟩ = some (.int .i64 a.c) ∧ w'.cell? ⟨b2, 4, none⟩ = some (.int .i64 a.d)) ∧ (w'.cell? ⟨b, o + k * 5, none⟩ = some (.int .i64 y.q) ∧ w'.cell? ⟨b, o + k * 5 + 1, none⟩ = some (.int .i64 y.id) ∧ w'.cell? ⟨b, o + k * 5 + 2, none⟩ = some (.int .i64 y.k) ∧ w'.cell? ⟨b, o + k * 5 + 3, none⟩ = some (.int .i64 y.c) ∧ w'.cell? ⟨b, o + k * 5 + 4, none⟩ = some (.int .i64 y.d)) := fun w' g' => ⟨d_cells (range_grew HRdd.out g'), a_cells0 (range_grew HRad.out g'), a_cells (range_grew hry g')⟩
          by_cases h1 : y.q < a.q
          · have q1 : decide (y.q < a.q) = true := decide_eq_true h1
            have HLT2 : Hid (∀ t y, t < k + 1 → d.an[t]? = some y → y.q < a.q) := fun t z ht hz => by
              by_cases e : t < k
              · exact HLT.out t z e hz
              · obtain rfl : t = k := by omega
                rw [HY.out] at hz; injection hz with hz; subst hz; exact h1
            clear h1
            go_wp2_with fail
            refine wp_region_seq (by kernel_rfl) Grew.refl (fun _ _ _ => Grew.trans) (fun _ _ _ _ _ h => h) (by kernel_rfl) ?_
            repeat (first
              | (refine TakeAll.pure (v := ?_) (by rfl) ?_ ?_; rotate_left; (intro w' g'; obtain ⟨⟨r0, r1⟩, ⟨a0, a1, a2, a3, a4⟩, y0, y1, y2, y3, y4⟩ := hC w' g'; go_simp; first | done | with_reducible rfl); (simp only [Act.put, List.setIfInBounds_toArray, List.set_cons_zero, List.set_cons_succ]))
              | (refine TakeAll.skip (by rfl) ?_; (simp only [Act.put, List.setIfInBounds_toArray, List.set_cons_zero, List.set_cons_succ])))
            refine TakeAll.nil ?_
            intro wd gd
            have gE := hg.drew.trans gd
            clear hC
            go_wp2_with fail
            go_roundw
            case rel => exact ⟨k + 1, by omega, by go_num, HLT2, gE⟩
            case measure => simp [intOf]; omega
          have q1 : decide (y.q < a.q) = false := decide_eq_false h1
          have HPOS : Hid (posA a.q d.an = k) := posA_at (by rw [HLA.out]; exact hk) HLT.out (fun z hz => by rw [HY.out] at hz; injection hz with hz; subst hz; exact h1)
          clear h1
          go_wp2_with fail
          refine wp_region_seq (by kernel_rfl) Grew.refl (fun _ _ _ => Grew.trans) (fun _ _ _ _ _ h => h) (by kernel_rfl) ?_
          repeat (first
            | (refine TakeAll.pure (v := ?_) (by rfl) ?_ ?_; rotate_left; (intro w' g'; obtain ⟨⟨r0, r1⟩, ⟨a0, a1, a2, a3, a4⟩, y0, y1, y2, y3, y4⟩ := hC w' g'; go_simp; first | done | with_reducible rfl); (simp only [Act.put, List.setIfInBounds_toArray, List.set_cons_zero, List.set_cons_succ]))
            | (refine TakeAll.skip (by rfl) ?_; (simp only [Act.put, List.setIfInBounds_toArray, List.set_cons_zero, List.set_cons_succ])))
          refine TakeAll.nil ?_
          intro wd0 gd0
          have gE0 := hg.drew.trans gd0
          clear hC
          have HRdd := Lib.hid (range_grew HRd.out gE0.drew)
          have HRad := Lib.hid (range_grew HRa.out gE0.drew)
          have hry := range_grew hry (gd0.trans (Grew.refl wd0).drew)
          have hC : ∀ w', Grew wd0.drew w' → (w'.cell? ⟨b1, 0, none⟩ = some (.slice A0 n0 c0) ∧ w'.cell? ⟨b1, 1, none⟩ = some (.slice (some ⟨b, o, none⟩) m0 e0)) ∧ (w'.cell? ⟨b2, 0, none⟩ = some (.int .i64 a.q) ∧ w'.cell? ⟨b2, 1, none⟩ = some (.int .i64 a.id) ∧ w'.cell? ⟨b2, 2, none⟩ = some (.int .i64 a.k) ∧ w'.cell? ⟨b2, 3, none⟩ = some (.int .i64 a.c) ∧ w'.cell? ⟨b2, 4, none⟩ = some (.int .i64 a.d)) ∧ (w'.cell? ⟨b, o + k * 5, none⟩ = some (.int .i64 y.q) ∧ w'.cell? ⟨b, o + k * 5 + 1, none⟩ = some (.int .i64 y.id) ∧ w'.cell? ⟨b, o + k * 5 + 2, none⟩ = some (.int .i64 y.k) ∧ w'.cell? ⟨b, o + k * 5 + 3, none⟩ = some (.int .i64 y.c) ∧ w'.cell? ⟨b, o + k * 5 + 4, none⟩ = some (.int .i64 y.d)) := fun w' g' => ⟨d_cells (range_grew HRdd.out g'), a_cells0 (range_grew HRad.out g'), a_cells (range_grew hry g')⟩
          by_cases h2 : y.q = a.q
          · have q2 : (y.q == a.q) = true := by simpa using h2
            have HFO : Hid (foundA a.q d.an = true) := by unfold Hid foundA; rw [HPOS.out, HY.out]; exact decide_eq_true h2
            clear h2
            go_wp2_with fail
            refine wp_region_seq (by kernel_rfl) Grew.refl (fun _ _ _ => Grew.trans) (fun _ _ _ _ _ h => h) (by kernel_rfl) ?_
            repeat (first
              | (refine TakeAll.pure (v := ?_) (by rfl) ?_ ?_; rotate_left; (intro w' g'; obtain ⟨⟨r0, r1⟩, ⟨a0, a1, a2, a3, a4⟩, y0, y1, y2, y3, y4⟩ := hC w' g'; go_simp; first | done | with_reducible rfl); (simp only [Act.put, List.setIfInBounds_toArray, List.set_cons_zero, List.set_cons_succ]))
              | (refine TakeAll.skip (by rfl) ?_; (simp only [Act.put, List.setIfInBounds_toArray, List.set_cons_zero, List.set_cons_succ])))
            refine TakeAll.nil ?_
            intro wd1 gd1
            have gE1 := gE0.drew.trans gd1
            clear hC
            have HRdd := Lib.hid (range_grew HRd.out gE1.drew)
            have HRad := Lib.hid (range_grew HRa.out gE1.drew)
            have hry := range_grew hry (gd1.trans (Grew.refl wd1).drew)
            have hC : ∀ w', Grew wd1.drew w' → (w'.cell? ⟨b1, 0, none⟩ = some (.slice A0 n0 c0) ∧ w'.cell? ⟨b1, 1, none⟩ = some (.slice (some ⟨b, o, none⟩) m0 e0)) ∧ (w'.cell? ⟨b2, 0, none⟩ = some (.int .i64 a.q) ∧ w'.cell? ⟨b2, 1, none⟩ = some (.int .i64 a.id) ∧ w'.cell? ⟨b2, 2, none⟩ = some (.int .i64 a.k) ∧ w'.cell? ⟨b2, 3, none⟩ = some (.int .i64 a.c) ∧ w'.cell? ⟨b2, 4, none⟩ = some (.int .i64 a.d)) ∧ (w'.cell? ⟨b, o + k * 5, none⟩ = some (.int .i64 y.q) ∧ w'.cell? ⟨b, o + k * 5 + 1, none⟩ = some (.int .i64 y.id) ∧ w'.cell? ⟨b, o + k * 5 + 2, none⟩ = some (.int .i64 y.k) ∧ w'.cell? ⟨b, o + k * 5 + 3, none⟩ = some (.int .i64 y.c) ∧ w'.cell? ⟨b, o + k * 5 + 4, none⟩ = some (.int .i64 y.d)) := fun w' g' => ⟨d_cells (range_grew HRdd.out g'), a_cells0 (range_grew HRad.out g'), a_cells (range_grew hry g')⟩
            cases hxy : eqAns y a with
            | false =>
              go_wp2_with fail
              refine wp_region_seq (by kernel_rfl) Grew.refl (fun _ _ _ => Grew.trans) (fun _ _ _ _ _ h => h) (by kernel_rfl) ?_
              repeat (first
                | (refine TakeAll.pure (v := ?_) (by rfl) ?_ ?_; rotate_left; (intro w' g'; obtain ⟨⟨r0, r1⟩, ⟨a0, a1, a2, a3, a4⟩, y0, y1, y2, y3, y4⟩ := hC w' g'; go_simp; first | done | with_reducible rfl); (simp only [Act.put, List.setIfInBounds_toArray, List.set_cons_zero, List.set_cons_succ]))
                | (refine TakeAll.skip (by rfl) ?_; (simp only [Act.put, List.setIfInBounds_toArray, List.set_cons_zero, List.set_cons_succ])))
              refine TakeAll.pure (v := .bool true) (by rfl) (fun w' _ => exec_neq29 (a := y) (b := a) (by rw [hxy]; rfl) rfl rfl rfl w') ?_
              simp only [Act.put, List.setIfInBounds_toArray, List.set_cons_zero, List.set_cons_succ]
              refine TakeAll.nil ?_
              intro wd2 gd2
              have gE2 := gE1.drew.trans gd2
              clear hC
              have HE : Hid (applyE d a = 5) := app_two HVP.out HFO.out (by rw [HPOS.out, HY.out]; intro h; injection h with h; exact (of_decide_eq_false hxy) h)
              have HDD := Lib.hid (appD_no HE.out (by decide))
              have HB4e := Lib.hid (gE2.block HB4.out)
              replace gg := gg.trans gE2
              obtain ⟨y0, y1⟩ := d_cells (row_at (l := [.slice none 0 0, .slice none 0 0]) HB4e.out)
              have f0 := row_free HB4e.out 0
              have f1 := row_free HB4e.out 1
              go_wp2_with fail
              refine bodyPost_ret (results_dsk rfl _ _ bR _ rfl (set2 HB4e.out _ _) rfl) rfl ?_
              exact ⟨none, 0, 0, none, 0, 0, ret_dsk HE.out.symm, by rw [HDD.out]; exact desk_nil _, (gg.set hbR _).set hbR _⟩
            | true =>
              go_wp2_with fail
              refine wp_region_seq (by kernel_rfl) Grew.refl (fun _ _ _ => Grew.trans) (fun _ _ _ _ _ h => h) (by kernel_rfl) ?_
              repeat (first
                | (refine TakeAll.pure (v := ?_) (by rfl) ?_ ?_; rotate_left; (intro w' g'; obtain ⟨⟨r0, r1⟩, ⟨a0, a1, a2, a3, a4⟩, y0, y1, y2, y3, y4⟩ := hC w' g'; go_simp; first | done | with_reducible rfl); (simp only [Act.put, List.setIfInBounds_toArray, List.set_cons_zero, List.set_cons_succ]))
                | (refine TakeAll.skip (by rfl) ?_; (simp only [Act.put, List.setIfInBounds_toArray, List.set_cons_zero, List.set_cons_succ])))
              refine TakeAll.pure (v := .bool false) (by rfl) (fun w' _ => exec_neq29 (a := y) (b := a) (by rw [hxy]; rfl) rfl rfl rfl w') ?_
              simp only [Act.put, List.setIfInBounds_toArray, List.set_cons_zero, List.set_cons_succ]
              refine TakeAll.nil ?_
              intro wd2 gd2
              have gE2 := gE1.drew.trans gd2
              clear hC
              have HE : Hid (applyE d a = 0) := app_same HVP.out HFO.out (by rw [HPOS.out, HY.out, of_decide_eq_true hxy])
              have HDD := Lib.hid (appD_same HE.out HFO.out)
              have HB4e := Lib.hid (gE2.block HB4.out)
              have HRde := Lib.hid (range_grew HRd.out gE2)
              have HDe := Lib.hid (HD.out.grew gE2)
              replace gg := gg.trans gE2
              obtain ⟨r0, r1⟩ := d_cells HRde.out
              go_wp2_with fail
              clear r0 r1
              have h4w := (Array.getElem?_eq_some_iff.1 HB4e.out).1
              refine (copy_any _ _ _ _ _ _ d _ HDe.out (by omega) (by omega)).mono ?_
              rintro r w11 ⟨A1, n1, c1, B1, m1, e1, rfl, hl1, hm1, own1, owa1, g11⟩
              have HB4f := Lib.hid (g11.block HB4e.out)
              have ggf := gg.trans g11
              have OS := Lib.hid own1
              have OA := Lib.hid owa1
              have HL1 := Lib.hid hl1
              have HM1 := Lib.hid hm1
              clear own1 owa1 g11 HDe HRde HB4e hl1 hm1
              obtain ⟨y0, y1⟩ := d_cells (row_at (l := [.slice none 0 0, .slice none 0 0]) HB4f.out)
              have f0 := row_free HB4f.out 0
              have f1 := row_free HB4f.out 1
              go_wp2_with fail
              refine bodyPost_ret (results_dsk rfl _ _ bR _ rfl (set2 HB4f.out _ _) rfl) rfl ?_
              refine ⟨A1, n1, c1, B1, m1, e1, ret_dsk HE.out.symm, ?_, (ggf.set hbR _).set hbR _⟩
              rw [HDD.out]
              exact ⟨⟨Recs.own HL1.out (own_set2 OS.out h4w _ _), HWF.out⟩, Recs.own HM1.out (own_set2 OA.out h4w _ _)⟩
          have q2 : (y.q == a.q) = false := by simpa using h2
          have HFN : Hid (foundA a.q d.an = false) := by unfold Hid foundA; rw [HPOS.out, HY.out]; exact decide_eq_false h2
          clear h2
          go_wp2_with fail
          refine wp_region_seq (by kernel_rfl) Grew.refl (fun _ _ _ => Grew.trans) (fun _ _ _ _ _ h => h) (by kernel_rfl) ?_
          repeat (first
            | (refine TakeAll.pure (v := ?_) (by rfl) ?_ ?_; rotate_left; (intro w' g'; obtain ⟨⟨r0, r1⟩, ⟨a0, a1, a2, a3, a4⟩, y0, y1, y2, y3, y4⟩ := hC w' g'; go_simp; first | done | with_reducible rfl); (simp only [Act.put, List.setIfInBounds_toArray, List.set_cons_zero, List.set_cons_succ]))
            | (refine TakeAll.skip (by rfl) ?_; (simp only [Act.put, List.setIfInBounds_toArray, List.set_cons_zero, List.set_cons_succ])))
          refine TakeAll.nil ?_
          intro wd gd
          have gE := gE0.drew.trans gd
          clear hC hry HRdd HRad gd gd0 gE0
          have hlimx : True := trivial
          by_cases hlim : 2000 ≤ m0
          · have q2 : decide ((m0 : Int) ≥ 2000) = true := decide_eq_true (by omega)
            have q2' : decide ((2000 : Int) ≤ (m0 : Int)) = true := decide_eq_true (by omega)
            have HE : Hid (applyE d a = 2) := app_lim HVP.out HFN.out (by rw [HLA.out]; exact hlim)
            have HDD := Lib.hid (appD_no HE.out (by decide))
            have HB4e := Lib.hid (gE.block HB4.out)
            have HRde := Lib.hid (range_grew HRd.out gE)
            replace gg := gg.trans gE
            obtain ⟨r0, r1⟩ := d_cells HRde.out
            obtain ⟨y0, y1⟩ := d_cells (row_at (l := [.slice none 0 0, .slice none 0 0]) HB4e.out)
            have f0 := row_free HB4e.out 0
            have f1 := row_free HB4e.out 1
            go_wp2_with fail
            refine bodyPost_ret (results_dsk rfl _ _ bR _ rfl (set2 HB4e.out _ _) rfl) rfl ?_
            exact ⟨none, 0, 0, none, 0, 0, ret_dsk HE.out.symm, by rw [HDD.out]; exact desk_nil _, (gg.set hbR _).set hbR _⟩
          have q2 : decide ((m0 : Int) ≥ 2000) = false := decide_eq_false (by omega)
          have q2' : decide ((2000 : Int) ≤ (m0 : Int)) = false := decide_eq_false (by omega)
          have HRde := Lib.hid (range_grew HRd.out gE)
          obtain ⟨r0, r1⟩ := d_cells HRde.out
          go_upto_region 13 with (fail)
          clear r0 r1 HRde q2 q2'
          obtain ⟨wx, hwx⟩ : ∃ y, y = wd.drew := ⟨_, rfl⟩
          have gx : Grew wd wx := by rw [hwx]; exact (Grew.refl wd).drew
          have HRdd := Lib.hid (range_grew HRd.out (gE.trans gx))
          have HRad := Lib.hid (range_grew HRa.out (gE.trans gx))
          have HHd := Lib.hid (HD.out.2.grew (gE.trans gx))
          have SH := Lib.hid (Recs.head ae_ok HHd.out (q := k) (k := e0) hk (by omega) (Nat.le_refl _)).2
          have ST := Lib.hid (Recs.tail ae_ok HHd.out hk).2
          have r1' : ∀ x, (Instr.slice 23 (.slice (some ⟨b, o, none⟩) m0 e0) none (some (.int .i64 (k : Int))) none).run Try.prog x = .ok (.slice (some ⟨b, o, none⟩) k e0) x := fun x => run_slice_head x 23 5 elem23 (sizeE23 x) (some ⟨b, o, none⟩) m0 e0 k _ (by omega)
          have r2' : ∀ x, (Instr.slice 23 (.slice (some ⟨b, o, none⟩) m0 e0) (some (.int .i64 (k : Int))) none none).run Try.prog x = .ok (.slice (tailA (some ⟨b, o, none⟩) e0 k 5) (m0 - k) (e0 - k)) x := fun x => run_slice_tail x 23 5 elem23 (sizeE23 x) (some ⟨b, o, none⟩) m0 e0 k _ (by omega)
          have hC : ∀ w', Grew wx w' → (w'.cell? ⟨b1, 0, none⟩ = some (.slice A0 n0 c0) ∧ w'.cell? ⟨b1, 1, none⟩ = some (.slice (some ⟨b, o, none⟩) m0 e0)) ∧ (w'.cell? ⟨b2, 0, none⟩ = some (.int .i64 a.q) ∧ w'.cell? ⟨b2, 1, none⟩ = some (.int .i64 a.id) ∧ w'.cell? ⟨b2, 2, none⟩ = some (.int .i64 a.k) ∧ w'.cell? ⟨b2, 3, none⟩ = some (.int .i64 a.c) ∧ w'.cell? ⟨b2, 4, none⟩ = some (.int .i64 a.d)) := fun w' g' => ⟨d_cells (range_grew HRdd.out g'), a_cells0 (range_grew HRad.out g')⟩
          clear HRdd HRad HHd
          refine wp_region_H (by kernel_rfl) (fun w' => Grew wx w') ?_
          rw [← hwx]
          clear hwx
          refine wpAnyH_takes (fun _ _ _ _ _ h => h) (Grew.refl _) [0, 1, 2, 3, 4, 6] (fuel' := 4) (by kernel_rfl) (by kernel_rfl) (by simp only [pickOps, List.getElem?_toArray, List.getElem?_cons_zero, List.getElem?_cons_succ]; rfl) ?_
          repeat (first
            | (refine TakeP.pure (v := ?_) (by rfl) ?_ ?_; rotate_left; (intro w' g'; obtain ⟨⟨r0, r1⟩, a0, a1, a2, a3, a4⟩ := hC w' g'; go_simp; first | done | with_reducible rfl); (simp only [Act.put, List.setIfInBounds_toArray, List.set_cons_zero, List.set_cons_succ])))
          refine TakeP.nil ?_
          refine wpAnyH_two (i := 5) (j := 7) (by kernel_rfl) (fuel' := 3) (by kernel_rfl) (by simp only [pickOps, List.getElem?_toArray, List.getElem?_cons_zero, List.getElem?_cons_succ]; rfl) rfl (by simp only [pickOps, List.getElem?_toArray, List.getElem?_cons_zero, List.getElem?_cons_succ]; rfl) rfl ?_ ?_
          · intro K hK
            refine wp_append_sl _ (.tmp 70) (.tmp 74) 23 rfl wx.heap.size 29 i0 _ 5 40 Try.underlying23 hi hz0 hz1 hz2 rfl (by decide) (.slice none 0 0) 0 _ rfl (World.ownsRow_nil _ _ _ _) (some ⟨b, o, none⟩) k e0 _ rfl (SH.out.grew (Grew.refl _)) (flat_one ae_ok _) (by unfold maxLen; omega) (by omega) ((Grew.refl _)).le ?_
            intro v3 w3 own3 hg3 hat3
            obtain ⟨A3, c3, rfl⟩ := own_form own3
            rw [Nat.zero_add, List.nil_append] at own3
            have S3 : Grew wx w3 := ((Grew.refl _)).grown hg3 (fun j hj => by cases hj)
            rw [Nat.zero_add]
            refine hK _ _ S3 ?_
            clear hK K
            simp only [Act.put, List.setIfInBounds_toArray, List.set_cons_zero, List.set_cons_succ]
            clear hat3
            have OW3 := Lib.hid own3
            clear own3 hg3
            refine wpAnyH_step (i := 7) (by kernel_rfl) (fuel' := 2) (by kernel_rfl) (by simp only [pickOps, List.getElem?_toArray, List.getElem?_cons_zero, List.getElem?_cons_succ]; rfl) (by rfl) ?_
            intro K hK
            go_simp
            have S4 := S3.alloc (.cells #[.int .i64 a.q, .int .i64 a.id, .int .i64 a.k, .int .i64 a.c, .int .i64 a.d] 29)
            refine hK _ _ S4 ?_
            clear hK K
            have BI := Lib.hid (Recs.built (w := w3) ae_ok (t := 29) (l := [a]) (n := 1) #[.int .i64 a.q, .int .i64 a.id, .int .i64 a.k, .int .i64 a.c, .int .i64 a.d] rfl rfl (by decide))
            have OW4 := Lib.hid (OW3.out.alloc (.cells #[.int .i64 a.q, .int .i64 a.id, .int .i64 a.k, .int .i64 a.c, .int .i64 a.d] 29))
            obtain ⟨w4, hw4⟩ : ∃ y, y = w3.alloc (.cells #[.int .i64 a.q, .int .i64 a.id, .int .i64 a.k, .int .i64 a.c, .int .i64 a.d] 29) := ⟨_, rfl⟩
            rw [← hw4] at S4 BI OW4 ⊢
            obtain ⟨b4, hb4⟩ : ∃ z, z = w3.heap.size := ⟨_, rfl⟩
            rw [← hb4] at BI ⊢
            clear hw4 hb4 OW3 S3
            refine wpAnyH_step (i := 8) (by kernel_rfl) (fuel' := 1) (by kernel_rfl) (by simp only [pickOps, List.getElem?_toArray, List.getElem?_cons_zero, List.getElem?_cons_succ]; rfl) (by rfl) ?_
            intro K hK
            refine wp_append_sl _ (.tmp 75) (.tmp 77) 23 rfl wx.heap.size 29 i0 _ 5 40 Try.underlying23 hi hz0 hz1 hz2 rfl (by decide) (.slice A3 k c3) k _ rfl OW4.out (some ⟨b4, 0, none⟩) 1 1 _ rfl BI.out.2 (flat_one ae_ok _) (by unfold maxLen; omega) (by omega) S4.le ?_
            intro v5 w5 own5 hg5 hat5
            obtain ⟨A5, c5, rfl⟩ := own_form own5
            have S5 : Grew wx w5 := S4.grown hg5 (fun j hj => (OW4.out.lt j hj).1)
            refine hK _ _ S5 ?_
            clear hK K
            simp only [Act.put, List.setIfInBounds_toArray, List.set_cons_zero, List.set_cons_succ]
            have OW5 := Lib.hid own5
            clear own5 hg5 hat5 OW4 BI S4
            refine wpAnyH_takes (fun _ _ _ _ _ h => h) S5 [9] (fuel' := 0) (by kernel_rfl) (by kernel_rfl) (by simp only [pickOps, List.getElem?_toArray, List.getElem?_cons_zero, List.getElem?_cons_succ]; rfl) ?_
            repeat (first
              | (refine TakeP.pure (v := ?_) (by rfl) ?_ ?_; rotate_left; (intro w' g'; go_simp; first | done | with_reducible rfl); (simp only [Act.put, List.setIfInBounds_toArray, List.set_cons_zero, List.set_cons_succ])))
            refine TakeP.nil ?_
            refine wpAnyH_done (by kernel_rfl) ?_ _
            have gX := (gg.trans gE).trans (gx.trans S5)
            have g5x := gx.trans S5
            clear hC
            have ST5 := Lib.hid (ST.out.grew S5)
            have HRd5 := Lib.hid (range_grew HRd.out (gE.trans g5x))
            have HRa5 := Lib.hid (range_grew HRa.out (gE.trans g5x))
            have HD5 := Lib.hid (HD.out.grew (gE.trans g5x))
            have HB45 := Lib.hid ((gE.trans g5x).block HB4.out)
            have hx4 : bR < wx.heap.size := (Array.getElem?_eq_some_iff.1 ((gE.trans gx).block HB4.out)).1
            have hx5 := S5.le
            obtain ⟨r0, r1⟩ := d_cells HRd5.out
            go_upto_region 15 with (at_builtin; refine wpList_append_sl _ rfl (.tmp 79) (.tmp 83) 23 rfl wx.heap.size 29 i0 _ 5 40 Try.underlying23 hi hz0 hz1 hz2 rfl (by decide) (.slice A5 (k + 1) c5) (k + 1) _ rfl OW5.out (tailA (some ⟨b, o, none⟩) e0 k 5) (m0 - k) (e0 - k) _ rfl ST5.out (flat_one ae_ok _) (by unfold maxLen; omega) (by omega) hx5 ?_; intro v7 w7 own7 hg7 hat7; obtain ⟨A7, c7, rfl⟩ := own_form own7; have g57 : Grew wx w7 := S5.grown hg7 (fun j hj => (OW5.out.lt j hj).1))
            clear r0 r1
            have e7 : k + 1 + (m0 - k) = m0 + 1 := by omega
            rw [e7] at own7 ⊢
            have HIX := Lib.hid (insA_at HPOS.out)
            have OW7 : Hid (w7.ownsRow wx.heap.size 29 5 (.slice A7 (m0 + 1) c7) (m0 + 1) ((insA a d.an).flatMap ae)) := by
              unfold Hid
              rw [HIX.out, List.flatMap_append, List.flatMap_cons]
              have h7 := own7
              simp only [List.flatMap_cons, List.flatMap_nil, List.append_nil, List.append_assoc] at h7
              exact h7
            have HLI : Hid ((insA a d.an).length = m0 + 1) := by unfold Hid; rw [insA_len, HLA.out]
            have HAN : Hid (Anss w7 A7 (m0 + 1) c7 (insA a d.an)) := Recs.own HLI.out OW7.out
            have gx7 := gx.trans g57
            have gg7 := (gg.trans gE).trans gx7
            have HRd7 := Lib.hid (range_grew HRd.out (gE.trans gx7))
            have HRa7 := Lib.hid (range_grew HRa.out (gE.trans gx7))
            have HD7 := Lib.hid (HD.out.grew (gE.trans gx7))
            have HB47 := Lib.hid ((gE.trans gx7).block HB4.out)
            clear own7 hg7 hat7 OW5 ST5 HRd5 HRa5 HD5 HB45 hx5 gX g5x S5
            obtain ⟨z, hzz⟩ : ∃ z, findI d.ss a.id = z := ⟨_, rfl⟩
            have HZ := Lib.hid hzz
            clear hzz
            obtain ⟨r0, r1⟩ := d_cells HRd7.out
            obtain ⟨a0, a1, a2, a3, a4⟩ := a_cells0 HRa7.out
            go_wp2_with fail
            clear r0 r1 a0 a1 a2 a3 a4
            refine (rfind_val HD7.out HZ.out).mono ?_
            rintro r w8 ⟨rfl, g8⟩
            have gg8 := gg7.trans g8
            have HRd8 := Lib.hid (range_grew HRd7.out g8)
            have HD8 := Lib.hid (HD7.out.grew g8)
            have HB48 := Lib.hid (g8.block HB47.out)
            have OW8 := Lib.hid (own_grew OW7.out g8)
            have HAN8 := Lib.hid (HAN.out.grew g8)
            clear HRd7 HRa7 HD7 HB47 OW7 HAN gg7 g8
            have gg := gg8
            cases hhi : hasId d.ss a.id with
            | false =>
              have hz0' := findI_miss hhi
              rw [HZ.out] at hz0'
              subst hz0'
              have HE : Hid (applyE d a = 401) := app_state HVP.out HFN.out (by rw [HLA.out]; exact hlim) (stand_none (has_find _ hhi))
              have HDD := Lib.hid (appD_no HE.out (by decide))
              have q : decide ((-1 : Int) < 0) = true := rfl
              clear hhi
              obtain ⟨y0, y1⟩ := d_cells (row_at (l := [.slice none 0 0, .slice none 0 0]) HB48.out)
              have f0 := row_free HB48.out 0
              have f1 := row_free HB48.out 1
              go_wp2_with fail
              refine bodyPost_ret (results_dsk rfl _ _ bR _ rfl (set2 HB48.out _ _) rfl) rfl ?_
              exact ⟨none, 0, 0, none, 0, 0, ret_dsk HE.out.symm, by rw [HDD.out]; exact desk_nil _, (gg.set hbR _).set hbR _⟩
            | true =>
              obtain ⟨z', hz', s0, hs0, hsid⟩ := find_yes hhi
              rw [HZ.out] at hz'
              subst hz'
              have HS0 := Lib.hid hs0
              have HSI := Lib.hid hsid
              have hzn : z' < n0 := by rw [← HL.out]; exact (List.getElem?_eq_some_iff.1 hs0).1
              have HFP : Hid (findP (paysOf d) a.id = some s0.p) := findP_at (stand_parts (valid_parts HV.out).2.2.1).1 (pays_at hs0) hsid
              have HRS := Lib.hid (rst_stand HV.out HP.out HFN.out HFP.out hsid)
              have q : decide ((z' : Int) < 0) = false := decide_eq_false (by omega)
              have z0 : (0 : Int) ≤ (z' : Int) := by omega
              have z1 : (z' : Int) < (n0 : Int) := by omega
              obtain ⟨bs, os, s1, hAs, hs1, hrs⟩ := HD8.out.1.1.at_ se_ok hzn
              have hss : s1 = s0 := by rw [HS0.out] at hs1; exact (Option.some.inj hs1).symm
              subst hss
              obtain ⟨st, hst⟩ : ∃ t, rstB s1.p (insA a d.an) = t := ⟨_, rfl⟩
              have HST := Lib.hid hst
              rw [hst] at HRS
              have HAB : Hid (∀ x ∈ insA a d.an, ansB x = true) := fun x hx => by
                rcases insA_mem.1 hx with rfl | hx
                · exact HP.out
                · exact ((stand_mem (valid_parts HV.out).2.2.1).2.1 x hx).1
              subst hAs
              clear hs0 hsid hhi hst hs1
              obtain ⟨r0, r1⟩ := d_cells HRd8.out
              obtain ⟨p0, p1, p2, p3⟩ := p_cells (s_pay hrs)
              go_wp2_with fail
              clear r0 r1 p0 p1 p2 p3 hrs
              refine (rstand_val HAN8.out HAB.out (by omega) HST.out).mono ?_
              rintro r w9 ⟨sn, hr9, hsn, g9⟩
              rw [sv_eq] at hr9
              subst hr9
              have HSN := Lib.hid hsn
              clear hsn
              obtain ⟨w10, hw10⟩ : ∃ y, y = w9.alloc (.cells #[.int .i64 sn.p.id, .string sn.p.acc, .int .i64 sn.p.c, .int .i64 sn.p.d, .int .i64 sn.st, .int .i64 sn.pd, .int .i64 sn.bk] 43) := ⟨_, rfl⟩
              have g10 : Grew w9 w10 := by rw [hw10]; exact (Grew.refl _).alloc _
              obtain ⟨b9, hb9⟩ : ∃ z, z = w9.heap.size := ⟨_, rfl⟩
              have HR9 : Hid (w10.rangeAt b9 0 (se sn)) := by unfold Hid; rw [hw10, hb9]; exact range_new w9 (se sn) 43
              have g8x := g9.trans g10
              have HRdx := Lib.hid (range_grew HRd8.out g8x)
              have HDx := Lib.hid (HD8.out.grew g8x)
              have HB4x := Lib.hid (g8x.block HB48.out)
              have OWx := Lib.hid (own_grew OW8.out g8x)
              replace gg := gg.trans g8x
              clear HRd8 HD8 HB48 OW8 HAN8 g9 g10 g8x HZ gg8
              go_upto_region 19 with (fail)
              rw [← hw10, ← hb9]
              clear hw10 hb9
              cases st with
              | false =>
                have HE : Hid (applyE d a = 401) := app_state HVP.out HFN.out (by rw [HLA.out]; exact hlim) (by rw [← HRS.out])
                have HDD := Lib.hid (appD_no HE.out (by decide))
                obtain ⟨y0, y1⟩ := d_cells (row_at (l := [.slice none 0 0, .slice none 0 0]) HB4x.out)
                have f0 := row_free HB4x.out 0
                have f1 := row_free HB4x.out 1
                go_wp2_with fail
                refine bodyPost_ret (results_dsk rfl _ _ bR _ rfl (set2 HB4x.out _ _) rfl) rfl ?_
                exact ⟨none, 0, 0, none, 0, 0, ret_dsk HE.out.symm, by rw [HDD.out]; exact desk_nil _, (gg.set hbR _).set hbR _⟩
              | true =>
                have hse := HSN.out rfl
                have HE : Hid (applyE d a = 0) := app_ok HVP.out HFN.out (by rw [HLA.out]; exact hlim) (by rw [← HRS.out])
                have HDD := Lib.hid (appD_ok HE.out HFN.out)
                have HSS : Hid (d.ss.set z' sn = standL (paysOf d) (insA a d.an)) := by unfold Hid; rw [hse]; exact set_standL HV.out HS0.out HSI.out
                clear hse HSN
                obtain ⟨r0, r1⟩ := d_cells HRdx.out
                go_wp2_with fail
                clear r0 r1
                have hcpw : w.heap.size ≤ w10.heap.size := gg.le
                have h9w : b9 < w10.heap.size := by
                  have h1 := HR9.out 0 _ rfl
                  obtain ⟨o1, h2, _⟩ := cells_of_cell h1
                  exact (Array.getElem?_eq_some_iff.1 h2).1
                have h4w := (Array.getElem?_eq_some_iff.1 HB4x.out).1
                refine (copy_any _ _ _ _ _ _ d _ HDx.out (by omega) (by omega)).mono ?_
                rintro r w11 ⟨A1, n1, c1, B1, m1, e1, rfl, hl1, hm1, own1, owa1, g11⟩
                rw [HL.out] at hl1
                rw [HLA.out] at hm1
                subst hl1 hm1
                obtain ⟨gS, hgS⟩ : ∃ g, A1 = some ⟨g, 0, none⟩ := by
                  rcases own1.2 with ⟨h1, h2⟩ | ⟨g, cap, cur, h1, _⟩
                  · omega
                  · injection h1 with h1 _ _; exact ⟨g, h1⟩
                subst hgS
                have hgl := own1.lt gS rfl
                have OS := Lib.hid own1
                have HR9b := Lib.hid (range_grew HR9.out g11)
                have HB4y := Lib.hid (g11.block HB4x.out)
                have OWy := Lib.hid (own_grew OWx.out g11)
                have ggy := gg.trans g11
                have hg9 : b9 ≠ gS := by omega
                have hg4 : bR ≠ gS := by omega
                clear own1 owa1 HR9 HB4x OWx HDx HRdx
                obtain ⟨w12, hw12⟩ : ∃ y, y = w11.alloc (.cells #[.slice (some ⟨gS, 0, none⟩) n0 c1, .slice B1 m0 e1] 25) := ⟨_, rfl⟩
                have g12 : Grew w11 w12 := by rw [hw12]; exact (Grew.refl _).alloc _
                obtain ⟨b11, hb11⟩ : ∃ z, z = w11.heap.size := ⟨_, rfl⟩
                have HB11 : Hid (w12.heap[b11]? = some (.cells #[.slice (some ⟨gS, 0, none⟩) n0 c1, .slice B1 m0 e1] 25)) := by unfold Hid; rw [hw12, hb11]; exact heap_alloc_new _ _
                have hA7 : ∀ j, (Value.slice A7 (m0 + 1) c7).ownBlock = some j → bR < j ∧ j < b11 := fun j hj => by
                  have h1 := OWy.out.lt j hj
                  omega
                have hg11 : gS < b11 ∧ bR < b11 ∧ b9 < b11 := by
                  have := g11.le
                  omega
                have hwb11 : w.heap.size ≤ b11 := by rw [hb11]; exact ggy.le
                have OS2 := Lib.hid (own_grew OS.out g12)
                have HR9c := Lib.hid (range_grew HR9b.out g12)
                have HB4z := Lib.hid (g12.block HB4y.out)
                have OWz := Lib.hid (own_grew OWy.out g12)
                have ggz := ggy.trans g12
                have h12 : b11 < w12.heap.size := (Array.getElem?_eq_some_iff.1 HB11.out).1
                clear OS HR9b HB4y OWy ggy g11 g12
                go_upto_region 22 with (fail)
                rw [← hw12, ← hb11]
                clear hw12 hb11
                obtain ⟨y0, y1⟩ := d_cells (row_at (l := [.slice (some ⟨gS, 0, none⟩) n0 c1, .slice B1 m0 e1]) HB11.out)
                have f1 := row_free HB11.out 1
                go_upto_region 23 with (fail)
                clear y0 y1 f1
                obtain ⟨w13, hw13⟩ : ∃ y, y = w12.setCell ⟨b11, 1, none⟩ (.slice A7 (m0 + 1) c7) := ⟨_, rfl⟩
                have hsg := set_grown w12 b11 1 (.slice A7 (m0 + 1) c7)
                have HB13 : Hid (w13.heap[b11]? = some (.cells #[.slice (some ⟨gS, 0, none⟩) n0 c1, .slice A7 (m0 + 1) c7] 25)) := by rw [hw13]; exact Go.heap_setCell_same w12 b11 1 _ 25 _ HB11.out
                have OS3 : Hid (w13.ownsRow w10.heap.size 43 7 (.slice (some ⟨gS, 0, none⟩) n0 c1) n0 (d.ss.flatMap se)) := by rw [hw13]; exact own_keep OS2.out hsg (fun k hk h9 => by injection hk with hk; exact absurd (show gS = k by simpa [Value.ownBlock] using h9) (by omega))
                have OW3 : Hid (w13.ownsRow wx.heap.size 29 5 (.slice A7 (m0 + 1) c7) (m0 + 1) ((insA a d.an).flatMap ae)) := by rw [hw13]; exact own_keep OWz.out hsg (fun k hk h9 => by injection hk with hk; have := hA7 k h9; omega)
                have HR93 : Hid (w13.rangeAt b9 0 (se sn)) := by rw [hw13]; exact range_far HR9c.out hsg (fun e => by injection e with e; omega)
                have HB43 : Hid (w13.heap[bR]? = some (.cells #[.slice none 0 0, .slice none 0 0] 25)) := by
                  rw [hw13]
                  unfold Hid
                  rw [hsg.block bR (Array.getElem?_eq_some_iff.1 HB4z.out).1 (fun e => by injection e with e; omega)]
                  exact HB4z.out
                have gg3 : Grew w w13 := by rw [hw13]; exact ggz.set hwb11 _
                have h13 : w12.heap.size ≤ w13.heap.size := by rw [hw13]; exact hsg.size
                rw [← hw13]
                clear hw13 hsg HB11 OS2 OWz HR9c HB4z ggz
                have HSR := Recs.own HL.out OS3.out
                obtain ⟨bq, oq, sq, hAq, hsq, hrq⟩ := HSR.at_ se_ok hzn
                injection hAq with hAq
                injection hAq with hq1 hq2
                subst hq1 hq2
                rw [Nat.zero_add] at hrq
                obtain ⟨t0, t1, t2, t3, t4, t5, t6⟩ := s_cells hrq
                have hfr : ∀ j, w13.frozen? ⟨gS, j, none⟩ = false := by
                  rcases OS3.out.2 with ⟨h1, _⟩ | ⟨g, cap, cur, h1, _, h3, _⟩
                  · cases h1
                  · injection h1 with h1 _ _
                    injection h1 with h1
                    injection h1 with h1 _
                    subst h1
                    exact fun j => row_free h3 j
                obtain ⟨x0, x1⟩ := d_cells (row_at (l := [.slice (some ⟨gS, 0, none⟩) n0 c1, .slice A7 (m0 + 1) c7]) HB13.out)
                obtain ⟨v0, v1, v2, v3, v4, v5, v6⟩ := s_cells0 HR93.out
                have fr0 := hfr (z' * 7)
                have fr1 := hfr (z' * 7 + 1)
                have fr2 := hfr (z' * 7 + 2)
                have fr3 := hfr (z' * 7 + 3)
                have fr4 := hfr (z' * 7 + 4)
                have fr5 := hfr (z' * 7 + 5)
                have fr6 := hfr (z' * 7 + 6)
                clear hrq HSR hsq hfr
                go_upto_region 24 with (fail)
                clear t0 t1 t2 t3 t4 t5 t6 x0 x1 v0 v1 v2 v3 v4 v5 v6 fr0 fr1 fr2 fr3 fr4 fr5 fr6
                obtain ⟨w14, hw14⟩ : ∃ y, y = ((((((w13.setCell ⟨gS, z' * 7, none⟩ (.int .i64 sn.p.id)).setCell ⟨gS, z' * 7 + 1, none⟩ (.string sn.p.acc)).setCell ⟨gS, z' * 7 + 2, none⟩ (.int .i64 sn.p.c)).setCell ⟨gS, z' * 7 + 3, none⟩ (.int .i64 sn.p.d)).setCell ⟨gS, z' * 7 + 4, none⟩ (.int .i64 sn.st)).setCell ⟨gS, z' * 7 + 5, none⟩ (.int .i64 sn.pd)).setCell ⟨gS, z' * 7 + 6, none⟩ (.int .i64 sn.bk) := ⟨_, rfl⟩
                have OS4 : Hid (w14.ownsRow w10.heap.size 43 7 (.slice (some ⟨gS, 0, none⟩) n0 c1) n0 ((d.ss.set z' sn).flatMap se)) := by
                  rw [hw14, ← flat_set7 sn d.ss z' (by rw [HL.out]; exact hzn)]
                  exact seven _ _ _ _ _ _ _ OS3.out
                have hA7g : (Value.slice A7 (m0 + 1) c7).ownBlock ≠ some gS := own_ne OS3.out OW3.out (by decide) rfl
                have OW4 : Hid (w14.ownsRow wx.heap.size 29 5 (.slice A7 (m0 + 1) c7) (m0 + 1) ((insA a d.an).flatMap ae)) := by rw [hw14]; exact seven_keep _ _ _ _ _ _ _ OW3.out hA7g
                have HB14 : Hid (w14.heap[b11]? = some (.cells #[.slice (some ⟨gS, 0, none⟩) n0 c1, .slice A7 (m0 + 1) c7] 25)) := by
                  rw [hw14]
                  unfold Hid
                  rw [seven_far _ _ _ _ _ _ _ (Array.getElem?_eq_some_iff.1 HB13.out).1 (by omega)]
                  exact HB13.out
                have HB44 : Hid (w14.heap[bR]? = some (.cells #[.slice none 0 0, .slice none 0 0] 25)) := by
                  rw [hw14]
                  unfold Hid
                  rw [seven_far _ _ _ _ _ _ _ (Array.getElem?_eq_some_iff.1 HB43.out).1 (by omega)]
                  exact HB43.out
                have gg4 : Grew w w14 := by rw [hw14]; exact seven_grew _ _ _ _ _ _ _ gg3 (by omega)
                rw [← hw14]
                clear hw14 HB13 HB43 gg3 OS3 OW3 HR93
                obtain ⟨x0, x1⟩ := d_cells (row_at (l := [.slice (some ⟨gS, 0, none⟩) n0 c1, .slice A7 (m0 + 1) c7]) HB14.out)
                obtain ⟨y0, y1⟩ := d_cells (row_at (l := [.slice none 0 0, .slice none 0 0]) HB44.out)
                have f0 := row_free HB44.out 0
                have f1 := row_free HB44.out 1
                go_wp2_with fail
                refine bodyPost_ret (results_dsk rfl _ _ bR _ rfl (set2 HB44.out _ _) rfl) rfl ?_
                refine ⟨some ⟨gS, 0, none⟩, n0, c1, A7, m0 + 1, c7, ret_dsk HE.out.symm, ?_, (gg4.set hbR _).set hbR _⟩
                rw [HDD.out, ← HSS.out]
                have k1 : ∀ k, some bR = some k → (Value.slice (some ⟨gS, 0, none⟩) n0 c1).ownBlock ≠ some k := fun k hk h9 => by injection hk with hk; exact absurd (show gS = k by simpa [Value.ownBlock] using h9) (by omega)
                have k2 : ∀ k, some bR = some k → (Value.slice A7 (m0 + 1) c7).ownBlock ≠ some k := fun k hk h9 => by injection hk with hk; have := hA7 k h9; omega
                exact ⟨⟨Recs.own (by rw [List.length_set, HL.out]) (own_keep (own_keep OS4.out (set_grown _ bR 0 _) k1) (set_grown _ bR 1 _) k1), by rw [HSS.out]; exact wf_set rfl HWF.out⟩, Recs.own HLI.out (own_keep (own_keep OW4.out (set_grown _ bR 0 _) k2) (set_grown _ bR 1 _) k2)⟩
          · intro K hK
            go_simp
            have S0 := (Grew.refl wx).alloc (.cells #[.int .i64 a.q, .int .i64 a.id, .int .i64 a.k, .int .i64 a.c, .int .i64 a.d] 29)
            refine hK _ _ S0 ?_
            clear hK K
            have BI := Lib.hid (Recs.built (w := wx) ae_ok (t := 29) (l := [a]) (n := 1) #[.int .i64 a.q, .int .i64 a.id, .int .i64 a.k, .int .i64 a.c, .int .i64 a.d] rfl rfl (by decide))
            obtain ⟨w2, hw2⟩ : ∃ y, y = wx.alloc (.cells #[.int .i64 a.q, .int .i64 a.id, .int .i64 a.k, .int .i64 a.c, .int .i64 a.d] 29) := ⟨_, rfl⟩
            rw [← hw2] at S0 BI ⊢
            obtain ⟨b4, hb4⟩ : ∃ z, z = wx.heap.size := ⟨_, rfl⟩
            rw [← hb4] at BI ⊢
            clear hw2 hb4
            refine wpAnyH_step (i := 5) (by kernel_rfl) (fuel' := 2) (by kernel_rfl) (by simp only [pickOps, List.getElem?_toArray, List.getElem?_cons_zero, List.getElem?_cons_succ]; rfl) (by rfl) ?_
            intro K hK
            refine wp_append_sl _ (.tmp 70) (.tmp 74) 23 rfl wx.heap.size 29 i0 _ 5 40 Try.underlying23 hi hz0 hz1 hz2 rfl (by decide) (.slice none 0 0) 0 _ rfl (World.ownsRow_nil _ _ _ _) (some ⟨b, o, none⟩) k e0 _ rfl (SH.out.grew S0) (flat_one ae_ok _) (by unfold maxLen; omega) (by omega) (S0).le ?_
            intro v3 w3 own3 hg3 hat3
            obtain ⟨A3, c3, rfl⟩ := own_form own3
            rw [Nat.zero_add, List.nil_append] at own3
            have S3 : Grew wx w3 := (S0).grown hg3 (fun j hj => by cases hj)
            rw [Nat.zero_add]
            refine hK _ _ S3 ?_
            clear hK K
            simp only [Act.put, List.setIfInBounds_toArray, List.set_cons_zero, List.set_cons_succ]
            clear hat3
            have g3 : Grew w2 w3 := (Grew.refl w2).grown hg3 (fun j hj => by cases hj)
            replace BI := Lib.hid (BI.out.grew g3)
            have OW4 := Lib.hid own3
            obtain ⟨w4, hw4⟩ : ∃ y, y = w3 := ⟨_, rfl⟩
            rw [← hw4] at S3 BI OW4 ⊢
            have S4 := S3
            clear hw4 own3 hg3 g3 S3 S0
            refine wpAnyH_step (i := 8) (by kernel_rfl) (fuel' := 1) (by kernel_rfl) (by simp only [pickOps, List.getElem?_toArray, List.getElem?_cons_zero, List.getElem?_cons_succ]; rfl) (by rfl) ?_
            intro K hK
            refine wp_append_sl _ (.tmp 75) (.tmp 77) 23 rfl wx.heap.size 29 i0 _ 5 40 Try.underlying23 hi hz0 hz1 hz2 rfl (by decide) (.slice A3 k c3) k _ rfl OW4.out (some ⟨b4, 0, none⟩) 1 1 _ rfl BI.out.2 (flat_one ae_ok _) (by unfold maxLen; omega) (by omega) S4.le ?_
            intro v5 w5 own5 hg5 hat5
            obtain ⟨A5, c5, rfl⟩ := own_form own5
            have S5 : Grew wx w5 := S4.grown hg5 (fun j hj => (OW4.out.lt j hj).1)
            refine hK _ _ S5 ?_
            clear hK K
            simp only [Act.put, List.setIfInBounds_toArray, List.set_cons_zero, List.set_cons_succ]
            have OW5 := Lib.hid own5
            clear own5 hg5 hat5 OW4 BI S4
            refine wpAnyH_takes (fun _ _ _ _ _ h => h) S5 [9] (fuel' := 0) (by kernel_rfl) (by kernel_rfl) (by simp only [pickOps, List.getElem?_toArray, List.getElem?_cons_zero, List.getElem?_cons_succ]; rfl) ?_
            repeat (first
              | (refine TakeP.pure (v := ?_) (by rfl) ?_ ?_; rotate_left; (intro w' g'; go_simp; first | done | with_reducible rfl); (simp only [Act.put, List.setIfInBounds_toArray, List.set_cons_zero, List.set_cons_succ])))
            refine TakeP.nil ?_
            refine wpAnyH_done (by kernel_rfl) ?_ _
            have gX := (gg.trans gE).trans (gx.trans S5)
            have g5x := gx.trans S5
            clear hC
            have ST5 := Lib.hid (ST.out.grew S5)
            have HRd5 := Lib.hid (range_grew HRd.out (gE.trans g5x))
            have HRa5 := Lib.hid (range_grew HRa.out (gE.trans g5x))
            have HD5 := Lib.hid (HD.out.grew (gE.trans g5x))
            have HB45 := Lib.hid ((gE.trans g5x).block HB4.out)
            have hx4 : bR < wx.heap.size := (Array.getElem?_eq_some_iff.1 ((gE.trans gx).block HB4.out)).1
            have hx5 := S5.le
            obtain ⟨r0, r1⟩ := d_cells HRd5.out
            go_upto_region 15 with (at_builtin; refine wpList_append_sl _ rfl (.tmp 79) (.tmp 83) 23 rfl wx.heap.size 29 i0 _ 5 40 Try.underlying23 hi hz0 hz1 hz2 rfl (by decide) (.slice A5 (k + 1) c5) (k + 1) _ rfl OW5.out (tailA (some ⟨b, o, none⟩) e0 k 5) (m0 - k) (e0 - k) _ rfl ST5.out (flat_one ae_ok _) (by unfold maxLen; omega) (by omega) hx5 ?_; intro v7 w7 own7 hg7 hat7; obtain ⟨A7, c7, rfl⟩ := own_form own7; have g57 : Grew wx w7 := S5.grown hg7 (fun j hj => (OW5.out.lt j hj).1))
            clear r0 r1
            have e7 : k + 1 + (m0 - k) = m0 + 1 := by omega
            rw [e7] at own7 ⊢
            have HIX := Lib.hid (insA_at HPOS.out)
            have OW7 : Hid (w7.ownsRow wx.heap.size 29 5 (.slice A7 (m0 + 1) c7) (m0 + 1) ((insA a d.an).flatMap ae)) := by
              unfold Hid
              rw [HIX.out, List.flatMap_append, List.flatMap_cons]
              have h7 := own7
              simp only [List.flatMap_cons, List.flatMap_nil, List.append_nil, List.append_assoc] at h7
              exact h7
            have HLI : Hid ((insA a d.an).length = m0 + 1) := by unfold Hid; rw [insA_len, HLA.out]
            have HAN : Hid (Anss w7 A7 (m0 + 1) c7 (insA a d.an)) := Recs.own HLI.out OW7.out
            have gx7 := gx.trans g57
            have gg7 := (gg.trans gE).trans gx7
            have HRd7 := Lib.hid (range_grew HRd.out (gE.trans gx7))
            have HRa7 := Lib.hid (range_grew HRa.out (gE.trans gx7))
            have HD7 := Lib.hid (HD.out.grew (gE.trans gx7))
            have HB47 := Lib.hid ((gE.trans gx7).block HB4.out)
            clear own7 hg7 hat7 OW5 ST5 HRd5 HRa5 HD5 HB45 hx5 gX g5x S5
            obtain ⟨z, hzz⟩ : ∃ z, findI d.ss a.id = z := ⟨_, rfl⟩
            have HZ := Lib.hid hzz
            clear hzz
            obtain ⟨r0, r1⟩ := d_cells HRd7.out
            obtain ⟨a0, a1, a2, a3, a4⟩ := a_cells0 HRa7.out
            go_wp2_with fail
            clear r0 r1 a0 a1 a2 a3 a4
            refine (rfind_val HD7.out HZ.out).mono ?_
            rintro r w8 ⟨rfl, g8⟩
            have gg8 := gg7.trans g8
            have HRd8 := Lib.hid (range_grew HRd7.out g8)
            have HD8 := Lib.hid (HD7.out.grew g8)
            have HB48 := Lib.hid (g8.block HB47.out)
            have OW8 := Lib.hid (own_grew OW7.out g8)
            have HAN8 := Lib.hid (HAN.out.grew g8)
            clear HRd7 HRa7 HD7 HB47 OW7 HAN gg7 g8
            have gg := gg8
            cases hhi : hasId d.ss a.id with
            | false =>
              have hz0' := findI_miss hhi
              rw [HZ.out] at hz0'
              subst hz0'
              have HE : Hid (applyE d a = 401) := app_state HVP.out HFN.out (by rw [HLA.out]; exact hlim) (stand_none (has_find _ hhi))
              have HDD := Lib.hid (appD_no HE.out (by decide))
              have q : decide ((-1 : Int) < 0) = true := rfl
              clear hhi
              obtain ⟨y0, y1⟩ := d_cells (row_at (l := [.slice none 0 0, .slice none 0 0]) HB48.out)
              have f0 := row_free HB48.out 0
              have f1 := row_free HB48.out 1
              go_wp2_with fail
              refine bodyPost_ret (results_dsk rfl _ _ bR _ rfl (set2 HB48.out _ _) rfl) rfl ?_
              exact ⟨none, 0, 0, none, 0, 0, ret_dsk HE.out.symm, by rw [HDD.out]; exact desk_nil _, (gg.set hbR _).set hbR _⟩
            | true =>
              obtain ⟨z', hz', s0, hs0, hsid⟩ := find_yes hhi
              rw [HZ.out] at hz'
              subst hz'
              have HS0 := Lib.hid hs0
              have HSI := Lib.hid hsid
              have hzn : z' < n0 := by rw [← HL.out]; exact (List.getElem?_eq_some_iff.1 hs0).1
              have HFP : Hid (findP (paysOf d) a.id = some s0.p) := findP_at (stand_parts (valid_parts HV.out).2.2.1).1 (pays_at hs0) hsid
              have HRS := Lib.hid (rst_stand HV.out HP.out HFN.out HFP.out hsid)
              have q : decide ((z' : Int) < 0) = false := decide_eq_false (by omega)
              have z0 : (0 : Int) ≤ (z' : Int) := by omega
              have z1 : (z' : Int) < (n0 : Int) := by omega
              obtain ⟨bs, os, s1, hAs, hs1, hrs⟩ := HD8.out.1.1.at_ se_ok hzn
              have hss : s1 = s0 := by rw [HS0.out] at hs1; exact (Option.some.inj hs1).symm
              subst hss
              obtain ⟨st, hst⟩ : ∃ t, rstB s1.p (insA a d.an) = t := ⟨_, rfl⟩
              have HST := Lib.hid hst
              rw [hst] at HRS
              have HAB : Hid (∀ x ∈ insA a d.an, ansB x = true) := fun x hx => by
                rcases insA_mem.1 hx with rfl | hx
                · exact HP.out
                · exact ((stand_mem (valid_parts HV.out).2.2.1).2.1 x hx).1
              subst hAs
              clear hs0 hsid hhi hst hs1
              obtain ⟨r0, r1⟩ := d_cells HRd8.out
              obtain ⟨p0, p1, p2, p3⟩ := p_cells (s_pay hrs)
              go_wp2_with fail
              clear r0 r1 p0 p1 p2 p3 hrs
              refine (rstand_val HAN8.out HAB.out (by omega) HST.out).mono ?_
              rintro r w9 ⟨sn, hr9, hsn, g9⟩
              rw [sv_eq] at hr9
              subst hr9
              have HSN := Lib.hid hsn
              clear hsn
              obtain ⟨w10, hw10⟩ : ∃ y, y = w9.alloc (.cells #[.int .i64 sn.p.id, .string sn.p.acc, .int .i64 sn.p.c, .int .i64 sn.p.d, .int .i64 sn.st, .int .i64 sn.pd, .int .i64 sn.bk] 43) := ⟨_, rfl⟩
              have g10 : Grew w9 w10 := by rw [hw10]; exact (Grew.refl _).alloc _
              obtain ⟨b9, hb9⟩ : ∃ z, z = w9.heap.size := ⟨_, rfl⟩
              have HR9 : Hid (w10.rangeAt b9 0 (se sn)) := by unfold Hid; rw [hw10, hb9]; exact range_new w9 (se sn) 43
              have g8x := g9.trans g10
              have HRdx := Lib.hid (range_grew HRd8.out g8x)
              have HDx := Lib.hid (HD8.out.grew g8x)
              have HB4x := Lib.hid (g8x.block HB48.out)
              have OWx := Lib.hid (own_grew OW8.out g8x)
              replace gg := gg.trans g8x
              clear HRd8 HD8 HB48 OW8 HAN8 g9 g10 g8x HZ gg8
              go_upto_region 19 with (fail)
              rw [← hw10, ← hb9]
              clear hw10 hb9
              cases st with
              | false =>
                have HE : Hid (applyE d a = 401) := app_state HVP.out HFN.out (by rw [HLA.out]; exact hlim) (by rw [← HRS.out])
                have HDD := Lib.hid (appD_no HE.out (by decide))
                obtain ⟨y0, y1⟩ := d_cells (row_at (l := [.slice none 0 0, .slice none 0 0]) HB4x.out)
                have f0 := row_free HB4x.out 0
                have f1 := row_free HB4x.out 1
                go_wp2_with fail
                refine bodyPost_ret (results_dsk rfl _ _ bR _ rfl (set2 HB4x.out _ _) rfl) rfl ?_
                exact ⟨none, 0, 0, none, 0, 0, ret_dsk HE.out.symm, by rw [HDD.out]; exact desk_nil _, (gg.set hbR _).set hbR _⟩
              | true =>
                have hse := HSN.out rfl
                have HE : Hid (applyE d a = 0) := app_ok HVP.out HFN.out (by rw [HLA.out]; exact hlim) (by rw [← HRS.out])
                have HDD := Lib.hid (appD_ok HE.out HFN.out)
                have HSS : Hid (d.ss.set z' sn = standL (paysOf d) (insA a d.an)) := by unfold Hid; rw [hse]; exact set_standL HV.out HS0.out HSI.out
                clear hse HSN
                obtain ⟨r0, r1⟩ := d_cells HRdx.out
                go_wp2_with fail
                clear r0 r1
                have hcpw : w.heap.size ≤ w10.heap.size := gg.le
                have h9w : b9 < w10.heap.size := by
                  have h1 := HR9.out 0 _ rfl
                  obtain ⟨o1, h2, _⟩ := cells_of_cell h1
                  exact (Array.getElem?_eq_some_iff.1 h2).1
                have h4w := (Array.getElem?_eq_some_iff.1 HB4x.out).1
                refine (copy_any _ _ _ _ _ _ d _ HDx.out (by omega) (by omega)).mono ?_
                rintro r w11 ⟨A1, n1, c1, B1, m1, e1, rfl, hl1, hm1, own1, owa1, g11⟩
                rw [HL.out] at hl1
                rw [HLA.out] at hm1
                subst hl1 hm1
                obtain ⟨gS, hgS⟩ : ∃ g, A1 = some ⟨g, 0, none⟩ := by
                  rcases own1.2 with ⟨h1, h2⟩ | ⟨g, cap, cur, h1, _⟩
                  · omega
                  · injection h1 with h1 _ _; exact ⟨g, h1⟩
                subst hgS
                have hgl := own1.lt gS rfl
                have OS := Lib.hid own1
                have HR9b := Lib.hid (range_grew HR9.out g11)
                have HB4y := Lib.hid (g11.block HB4x.out)
                have OWy := Lib.hid (own_grew OWx.out g11)
                have ggy := gg.trans g11
                have hg9 : b9 ≠ gS := by omega
                have hg4 : bR ≠ gS := by omega
                clear own1 owa1 HR9 HB4x OWx HDx HRdx
                obtain ⟨w12, hw12⟩ : ∃ y, y = w11.alloc (.cells #[.slice (some ⟨gS, 0, none⟩) n0 c1, .slice B1 m0 e1] 25) := ⟨_, rfl⟩
                have g12 : Grew w11 w12 := by rw [hw12]; exact (Grew.refl _).alloc _
                obtain ⟨b11, hb11⟩ : ∃ z, z = w11.heap.size := ⟨_, rfl⟩
                have HB11 : Hid (w12.heap[b11]? = some (.cells #[.slice (some ⟨gS, 0, none⟩) n0 c1, .slice B1 m0 e1] 25)) := by unfold Hid; rw [hw12, hb11]; exact heap_alloc_new _ _
                have hA7 : ∀ j, (Value.slice A7 (m0 + 1) c7).ownBlock = some j → bR < j ∧ j < b11 := fun j hj => by
                  have h1 := OWy.out.lt j hj
                  omega
                have hg11 : gS < b11 ∧ bR < b11 ∧ b9 < b11 := by
                  have := g11.le
                  omega
                have hwb11 : w.heap.size ≤ b11 := by rw [hb11]; exact ggy.le
                have OS2 := Lib.hid (own_grew OS.out g12)
                have HR9c := Lib.hid (range_grew HR9b.out g12)
                have HB4z := Lib.hid (g12.block HB4y.out)
                have OWz := Lib.hid (own_grew OWy.out g12)
                have ggz := ggy.trans g12
                have h12 : b11 < w12.heap.size := (Array.getElem?_eq_some_iff.1 HB11.out).1
                clear OS HR9b HB4y OWy ggy g11 g12
                go_upto_region 22 with (fail)
                rw [← hw12, ← hb11]
                clear hw12 hb11
                obtain ⟨y0, y1⟩ := d_cells (row_at (l := [.slice (some ⟨gS, 0, none⟩) n0 c1, .slice B1 m0 e1]) HB11.out)
                have f1 := row_free HB11.out 1
                go_upto_region 23 with (fail)
                clear y0 y1 f1
                obtain ⟨w13, hw13⟩ : ∃ y, y = w12.setCell ⟨b11, 1, none⟩ (.slice A7 (m0 + 1) c7) := ⟨_, rfl⟩
                have hsg := set_grown w12 b11 1 (.slice A7 (m0 + 1) c7)
                have HB13 : Hid (w13.heap[b11]? = some (.cells #[.slice (some ⟨gS, 0, none⟩) n0 c1, .slice A7 (m0 + 1) c7] 25)) := by rw [hw13]; exact Go.heap_setCell_same w12 b11 1 _ 25 _ HB11.out
                have OS3 : Hid (w13.ownsRow w10.heap.size 43 7 (.slice (some ⟨gS, 0, none⟩) n0 c1) n0 (d.ss.flatMap se)) := by rw [hw13]; exact own_keep OS2.out hsg (fun k hk h9 => by injection hk with hk; exact absurd (show gS = k by simpa [Value.ownBlock] using h9) (by omega))
                have OW3 : Hid (w13.ownsRow wx.heap.size 29 5 (.slice A7 (m0 + 1) c7) (m0 + 1) ((insA a d.an).flatMap ae)) := by rw [hw13]; exact own_keep OWz.out hsg (fun k hk h9 => by injection hk with hk; have := hA7 k h9; omega)
                have HR93 : Hid (w13.rangeAt b9 0 (se sn)) := by rw [hw13]; exact range_far HR9c.out hsg (fun e => by injection e with e; omega)
                have HB43 : Hid (w13.heap[bR]? = some (.cells #[.slice none 0 0, .slice none 0 0] 25)) := by
                  rw [hw13]
                  unfold Hid
                  rw [hsg.block bR (Array.getElem?_eq_some_iff.1 HB4z.out).1 (fun e => by injection e with e; omega)]
                  exact HB4z.out
                have gg3 : Grew w w13 := by rw [hw13]; exact ggz.set hwb11 _
                have h13 : w12.heap.size ≤ w13.heap.size := by rw [hw13]; exact hsg.size
                rw [← hw13]
                clear hw13 hsg HB11 OS2 OWz HR9c HB4z ggz
                have HSR := Recs.own HL.out OS3.out
                obtain ⟨bq, oq, sq, hAq, hsq, hrq⟩ := HSR.at_ se_ok hzn
                injection hAq with hAq
                injection hAq with hq1 hq2
                subst hq1 hq2
                rw [Nat.zero_add] at hrq
                obtain ⟨t0, t1, t2, t3, t4, t5, t6⟩ := s_cells hrq
                have hfr : ∀ j, w13.frozen? ⟨gS, j, none⟩ = false := by
                  rcases OS3.out.2 with ⟨h1, _⟩ | ⟨g, cap, cur, h1, _, h3, _⟩
                  · cases h1
                  · injection h1 with h1 _ _
                    injection h1 with h1
                    injection h1 with h1 _
                    subst h1
                    exact fun j => row_free h3 j
                obtain ⟨x0, x1⟩ := d_cells (row_at (l := [.slice (some ⟨gS, 0, none⟩) n0 c1, .slice A7 (m0 + 1) c7]) HB13.out)
                obtain ⟨v0, v1, v2, v3, v4, v5, v6⟩ := s_cells0 HR93.out
                have fr0 := hfr (z' * 7)
                have fr1 := hfr (z' * 7 + 1)
                have fr2 := hfr (z' * 7 + 2)
                have fr3 := hfr (z' * 7 + 3)
                have fr4 := hfr (z' * 7 + 4)
                have fr5 := hfr (z' * 7 + 5)
                have fr6 := hfr (z' * 7 + 6)
                clear hrq HSR hsq hfr
                go_upto_region 24 with (fail)
                clear t0 t1 t2 t3 t4 t5 t6 x0 x1 v0 v1 v2 v3 v4 v5 v6 fr0 fr1 fr2 fr3 fr4 fr5 fr6
                obtain ⟨w14, hw14⟩ : ∃ y, y = ((((((w13.setCell ⟨gS, z' * 7, none⟩ (.int .i64 sn.p.id)).setCell ⟨gS, z' * 7 + 1, none⟩ (.string sn.p.acc)).setCell ⟨gS, z' * 7 + 2, none⟩ (.int .i64 sn.p.c)).setCell ⟨gS, z' * 7 + 3, none⟩ (.int .i64 sn.p.d)).setCell ⟨gS, z' * 7 + 4, none⟩ (.int .i64 sn.st)).setCell ⟨gS, z' * 7 + 5, none⟩ (.int .i64 sn.pd)).setCell ⟨gS, z' * 7 + 6, none⟩ (.int .i64 sn.bk) := ⟨_, rfl⟩
                have OS4 : Hid (w14.ownsRow w10.heap.size 43 7 (.slice (some ⟨gS, 0, none⟩) n0 c1) n0 ((d.ss.set z' sn).flatMap se)) := by
                  rw [hw14, ← flat_set7 sn d.ss z' (by rw [HL.out]; exact hzn)]
                  exact seven _ _ _ _ _ _ _ OS3.out
                have hA7g : (Value.slice A7 (m0 + 1) c7).ownBlock ≠ some gS := own_ne OS3.out OW3.out (by decide) rfl
                have OW4 : Hid (w14.ownsRow wx.heap.size 29 5 (.slice A7 (m0 + 1) c7) (m0 + 1) ((insA a d.an).flatMap ae)) := by rw [hw14]; exact seven_keep _ _ _ _ _ _ _ OW3.out hA7g
                have HB14 : Hid (w14.heap[b11]? = some (.cells #[.slice (some ⟨gS, 0, none⟩) n0 c1, .slice A7 (m0 + 1) c7] 25)) := by
                  rw [hw14]
                  unfold Hid
                  rw [seven_far _ _ _ _ _ _ _ (Array.getElem?_eq_some_iff.1 HB13.out).1 (by omega)]
                  exact HB13.out
                have HB44 : Hid (w14.heap[bR]? = some (.cells #[.slice none 0 0, .slice none 0 0] 25)) := by
                  rw [hw14]
                  unfold Hid
                  rw [seven_far _ _ _ _ _ _ _ (Array.getElem?_eq_some_iff.1 HB43.out).1 (by omega)]
                  exact HB43.out
                have gg4 : Grew w w14 := by rw [hw14]; exact seven_grew _ _ _ _ _ _ _ gg3 (by omega)
                rw [← hw14]
                clear hw14 HB13 HB43 gg3 OS3 OW3 HR93
                obtain ⟨x0, x1⟩ := d_cells (row_at (l := [.slice (some ⟨gS, 0, none⟩) n0 c1, .slice A7 (m0 + 1) c7]) HB14.out)
                obtain ⟨y0, y1⟩ := d_cells (row_at (l := [.slice none 0 0, .slice none 0 0]) HB44.out)
                have f0 := row_free HB44.out 0
                have f1 := row_free HB44.out 1
                go_wp2_with fail
                refine bodyPost_ret (results_dsk rfl _ _ bR _ rfl (set2 HB44.out _ _) rfl) rfl ?_
                refine ⟨some ⟨gS, 0, none⟩, n0, c1, A7, m0 + 1, c7, ret_dsk HE.out.symm, ?_, (gg4.set hbR _).set hbR _⟩
                rw [HDD.out, ← HSS.out]
                have k1 : ∀ k, some bR = some k → (Value.slice (some ⟨gS, 0, none⟩) n0 c1).ownBlock ≠ some k := fun k hk h9 => by injection hk with hk; exact absurd (show gS = k by simpa [Value.ownBlock] using h9) (by omega)
                have k2 : ∀ k, some bR = some k → (Value.slice A7 (m0 + 1) c7).ownBlock ≠ some k := fun k hk h9 => by injection hk with hk; have := hA7 k h9; omega
                exact ⟨⟨Recs.own (by rw [List.length_set, HL.out]) (own_keep (own_keep OS4.out (set_grown _ bR 0 _) k1) (set_grown _ bR 1 _) k1), by rw [HSS.out]; exact wf_set rfl HWF.out⟩, Recs.own HLI.out (own_keep (own_keep OW4.out (set_grown _ bR 0 _) k2) (set_grown _ bR 1 _) k2)⟩
        · have qk : decide ((k : Int) < (m0 : Int)) = false := decide_eq_false (by omega)
          have qk2 : decide (k < m0) = false := decide_eq_false hlt
          have HPOS : Hid (posA a.q d.an = k) := posA_at (by rw [HLA.out]; exact hk) HLT.out (fun z hz => by rw [List.getElem?_eq_none (by rw [HLA.out]; omega)] at hz; cases hz)
          have HFN : Hid (foundA a.q d.an = false) := by unfold Hid foundA; rw [HPOS.out, List.getElem?_eq_none (by rw [HLA.out]; omega)]
          have hmk : m0 ≤ k := by omega
          clear hlt
          have HRdd := Lib.hid (range_grew HRd.out hg.drew)
          have HRad := Lib.hid (range_grew HRa.out hg.drew)
          have hC : ∀ w', Grew wr.drew w' → (w'.cell? ⟨b1, 0, none⟩ = some (.slice A0 n0 c0) ∧ w'.cell? ⟨b1, 1, none⟩ = some (.slice B0 m0 e0)) ∧ (w'.cell? ⟨b2, 0, none⟩ = some (.int .i64 a.q) ∧ w'.cell? ⟨b2, 1, none⟩ = some (.int .i64 a.id) ∧ w'.cell? ⟨b2, 2, none⟩ = some (.int .i64 a.k) ∧ w'.cell? ⟨b2, 3, none⟩ = some (.int .i64 a.c) ∧ w'.cell? ⟨b2, 4, none⟩ = some (.int .i64 a.d)) := fun w' g' => ⟨d_cells (range_grew HRdd.out g'), a_cells0 (range_grew HRad.out g')⟩
          go_wp2_with fail
          refine wp_region_seq (by kernel_rfl) Grew.refl (fun _ _ _ => Grew.trans) (fun _ _ _ _ _ h => h) (by kernel_rfl) ?_
          repeat (first
            | (refine TakeAll.pure (v := ?_) (by rfl) ?_ ?_; rotate_left; (intro w' g'; obtain ⟨⟨r0, r1⟩, a0, a1, a2, a3, a4⟩ := hC w' g'; go_simp; first | done | with_reducible rfl); (simp only [Act.put, List.setIfInBounds_toArray, List.set_cons_zero, List.set_cons_succ]))
            | (refine TakeAll.skip (by rfl) ?_; (simp only [Act.put, List.setIfInBounds_toArray, List.set_cons_zero, List.set_cons_succ])))
          refine TakeAll.nil ?_
          intro wd0 gd0
          have gE0 := hg.drew.trans gd0
          clear hC
          have HRdd := Lib.hid (range_grew HRd.out gE0.drew)
          have HRad := Lib.hid (range_grew HRa.out gE0.drew)
          have hC : ∀ w', Grew wd0.drew w' → (w'.cell? ⟨b1, 0, none⟩ = some (.slice A0 n0 c0) ∧ w'.cell? ⟨b1, 1, none⟩ = some (.slice B0 m0 e0)) ∧ (w'.cell? ⟨b2, 0, none⟩ = some (.int .i64 a.q) ∧ w'.cell? ⟨b2, 1, none⟩ = some (.int .i64 a.id) ∧ w'.cell? ⟨b2, 2, none⟩ = some (.int .i64 a.k) ∧ w'.cell? ⟨b2, 3, none⟩ = some (.int .i64 a.c) ∧ w'.cell? ⟨b2, 4, none⟩ = some (.int .i64 a.d)) := fun w' g' => ⟨d_cells (range_grew HRdd.out g'), a_cells0 (range_grew HRad.out g')⟩
          go_wp2_with fail
          refine wp_region_seq (by kernel_rfl) Grew.refl (fun _ _ _ => Grew.trans) (fun _ _ _ _ _ h => h) (by kernel_rfl) ?_
          repeat (first
            | (refine TakeAll.pure (v := ?_) (by rfl) ?_ ?_; rotate_left; (intro w' g'; obtain ⟨⟨r0, r1⟩, a0, a1, a2, a3, a4⟩ := hC w' g'; go_simp; first | done | with_reducible rfl); (simp only [Act.put, List.setIfInBounds_toArray, List.set_cons_zero, List.set_cons_succ]))
            | (refine TakeAll.skip (by rfl) ?_; (simp only [Act.put, List.setIfInBounds_toArray, List.set_cons_zero, List.set_cons_succ])))
          refine TakeAll.nil ?_
          intro wd gd
          have gE := gE0.drew.trans gd
          clear hC HRdd HRad gd gd0 gE0 hmk qk qk2
          have hlimx : True := trivial
          by_cases hlim : 2000 ≤ m0
          · have q2 : decide ((m0 : Int) ≥ 2000) = true := decide_eq_true (by omega)
            have q2' : decide ((2000 : Int) ≤ (m0 : Int)) = true := decide_eq_true (by omega)
            have HE : Hid (applyE d a = 2) := app_lim HVP.out HFN.out (by rw [HLA.out]; exact hlim)
            have HDD := Lib.hid (appD_no HE.out (by decide))
            have HB4e := Lib.hid (gE.block HB4.out)
            have HRde := Lib.hid (range_grew HRd.out gE)
            replace gg := gg.trans gE
            obtain ⟨r0, r1⟩ := d_cells HRde.out
            obtain ⟨y0, y1⟩ := d_cells (row_at (l := [.slice none 0 0, .slice none 0 0]) HB4e.out)
            have f0 := row_free HB4e.out 0
            have f1 := row_free HB4e.out 1
            go_wp2_with fail
            refine bodyPost_ret (results_dsk rfl _ _ bR _ rfl (set2 HB4e.out _ _) rfl) rfl ?_
            exact ⟨none, 0, 0, none, 0, 0, ret_dsk HE.out.symm, by rw [HDD.out]; exact desk_nil _, (gg.set hbR _).set hbR _⟩
          have q2 : decide ((m0 : Int) ≥ 2000) = false := decide_eq_false (by omega)
          have q2' : decide ((2000 : Int) ≤ (m0 : Int)) = false := decide_eq_false (by omega)
          have HRde := Lib.hid (range_grew HRd.out gE)
          obtain ⟨r0, r1⟩ := d_cells HRde.out
          go_upto_region 13 with (fail)
          clear r0 r1 HRde q2 q2'
          obtain ⟨wx, hwx⟩ : ∃ y, y = wd.drew := ⟨_, rfl⟩
          have gx : Grew wd wx := by rw [hwx]; exact (Grew.refl wd).drew
          have HRdd := Lib.hid (range_grew HRd.out (gE.trans gx))
          have HRad := Lib.hid (range_grew HRa.out (gE.trans gx))
          have HHd := Lib.hid (HD.out.2.grew (gE.trans gx))
          have SH := Lib.hid (Recs.head ae_ok HHd.out (q := k) (k := e0) hk (by omega) (Nat.le_refl _)).2
          have ST := Lib.hid (Recs.tail ae_ok HHd.out hk).2
          have r1' : ∀ x, (Instr.slice 23 (.slice B0 m0 e0) none (some (.int .i64 (k : Int))) none).run Try.prog x = .ok (.slice B0 k e0) x := fun x => run_slice_head x 23 5 elem23 (sizeE23 x) B0 m0 e0 k _ (by omega)
          have r2' : ∀ x, (Instr.slice 23 (.slice B0 m0 e0) (some (.int .i64 (k : Int))) none none).run Try.prog x = .ok (.slice (tailA B0 e0 k 5) (m0 - k) (e0 - k)) x := fun x => run_slice_tail x 23 5 elem23 (sizeE23 x) B0 m0 e0 k _ (by omega)
          have hC : ∀ w', Grew wx w' → (w'.cell? ⟨b1, 0, none⟩ = some (.slice A0 n0 c0) ∧ w'.cell? ⟨b1, 1, none⟩ = some (.slice B0 m0 e0)) ∧ (w'.cell? ⟨b2, 0, none⟩ = some (.int .i64 a.q) ∧ w'.cell? ⟨b2, 1, none⟩ = some (.int .i64 a.id) ∧ w'.cell? ⟨b2, 2, none⟩ = some (.int .i64 a.k) ∧ w'.cell? ⟨b2, 3, none⟩ = some (.int .i64 a.c) ∧ w'.cell? ⟨b2, 4, none⟩ = some (.int .i64 a.d)) := fun w' g' => ⟨d_cells (range_grew HRdd.out g'), a_cells0 (range_grew HRad.out g')⟩
          clear HRdd HRad HHd
          refine wp_region_H (by kernel_rfl) (fun w' => Grew wx w') ?_
          rw [← hwx]
          clear hwx
          refine wpAnyH_takes (fun _ _ _ _ _ h => h) (Grew.refl _) [0, 1, 2, 3, 4, 6] (fuel' := 4) (by kernel_rfl) (by kernel_rfl) (by simp only [pickOps, List.getElem?_toArray, List.getElem?_cons_zero, List.getElem?_cons_succ]; rfl) ?_
          repeat (first
            | (refine TakeP.pure (v := ?_) (by rfl) ?_ ?_; rotate_left; (intro w' g'; obtain ⟨⟨r0, r1⟩, a0, a1, a2, a3, a4⟩ := hC w' g'; go_simp; first | done | with_reducible rfl); (simp only [Act.put, List.setIfInBounds_toArray, List.set_cons_zero, List.set_cons_succ])))
          refine TakeP.nil ?_
          refine wpAnyH_two (i := 5) (j := 7) (by kernel_rfl) (fuel' := 3) (by kernel_rfl) (by simp only [pickOps, List.getElem?_toArray, List.getElem?_cons_zero, List.getElem?_cons_succ]; rfl) rfl (by simp only [pickOps, List.getElem?_toArray, List.getElem?_cons_zero, List.getElem?_cons_succ]; rfl) rfl ?_ ?_
          · intro K hK
            refine wp_append_sl _ (.tmp 70) (.tmp 74) 23 rfl wx.heap.size 29 i0 _ 5 40 Try.underlying23 hi hz0 hz1 hz2 rfl (by decide) (.slice none 0 0) 0 _ rfl (World.ownsRow_nil _ _ _ _) B0 k e0 _ rfl (SH.out.grew (Grew.refl _)) (flat_one ae_ok _) (by unfold maxLen; omega) (by omega) ((Grew.refl _)).le ?_
            intro v3 w3 own3 hg3 hat3
            obtain ⟨A3, c3, rfl⟩ := own_form own3
            rw [Nat.zero_add, List.nil_append] at own3
            have S3 : Grew wx w3 := ((Grew.refl _)).grown hg3 (fun j hj => by cases hj)
            rw [Nat.zero_add]
            refine hK _ _ S3 ?_
            clear hK K
            simp only [Act.put, List.setIfInBounds_toArray, List.set_cons_zero, List.set_cons_succ]
            clear hat3
            have OW3 := Lib.hid own3
            clear own3 hg3
            refine wpAnyH_step (i := 7) (by kernel_rfl) (fuel' := 2) (by kernel_rfl) (by simp only [pickOps, List.getElem?_toArray, List.getElem?_cons_zero, List.getElem?_cons_succ]; rfl) (by rfl) ?_
            intro K hK
            go_simp
            have S4 := S3.alloc (.cells #[.int .i64 a.q, .int .i64 a.id, .int .i64 a.k, .int .i64 a.c, .int .i64 a.d] 29)
            refine hK _ _ S4 ?_
            clear hK K
            have BI := Lib.hid (Recs.built (w := w3) ae_ok (t := 29) (l := [a]) (n := 1) #[.int .i64 a.q, .int .i64 a.id, .int .i64 a.k, .int .i64 a.c, .int .i64 a.d] rfl rfl (by decide))
            have OW4 := Lib.hid (OW3.out.alloc (.cells #[.int .i64 a.q, .int .i64 a.id, .int .i64 a.k, .int .i64 a.c, .int .i64 a.d] 29))
            obtain ⟨w4, hw4⟩ : ∃ y, y = w3.alloc (.cells #[.int .i64 a.q, .int .i64 a.id, .int .i64 a.k, .int .i64 a.c, .int .i64 a.d] 29) := ⟨_, rfl⟩
            rw [← hw4] at S4 BI OW4 ⊢
            obtain ⟨b4, hb4⟩ : ∃ z, z = w3.heap.size := ⟨_, rfl⟩
            rw [← hb4] at BI ⊢
            clear hw4 hb4 OW3 S3
            refine wpAnyH_step (i := 8) (by kernel_rfl) (fuel' := 1) (by kernel_rfl) (by simp only [pickOps, List.getElem?_toArray, List.getElem?_cons_zero, List.getElem?_cons_succ]; rfl) (by rfl) ?_
            intro K hK
            refine wp_append_sl _ (.tmp 75) (.tmp 77) 23 rfl wx.heap.size 29 i0 _ 5 40 Try.underlying23 hi hz0 hz1 hz2 rfl (by decide) (.slice A3 k c3) k _ rfl OW4.out (some ⟨b4, 0, none⟩) 1 1 _ rfl BI.out.2 (flat_one ae_ok _) (by unfold maxLen; omega) (by omega) S4.le ?_
            intro v5 w5 own5 hg5 hat5
            obtain ⟨A5, c5, rfl⟩ := own_form own5
            have S5 : Grew wx w5 := S4.grown hg5 (fun j hj => (OW4.out.lt j hj).1)
            refine hK _ _ S5 ?_
            clear hK K
            simp only [Act.put, List.setIfInBounds_toArray, List.set_cons_zero, List.set_cons_succ]
            have OW5 := Lib.hid own5
            clear own5 hg5 hat5 OW4 BI S4
            refine wpAnyH_takes (fun _ _ _ _ _ h => h) S5 [9] (fuel' := 0) (by kernel_rfl) (by kernel_rfl) (by simp only [pickOps, List.getElem?_toArray, List.getElem?_cons_zero, List.getElem?_cons_succ]; rfl) ?_
            repeat (first
              | (refine TakeP.pure (v := ?_) (by rfl) ?_ ?_; rotate_left; (intro w' g'; go_simp; first | done | with_reducible rfl); (simp only [Act.put, List.setIfInBounds_toArray, List.set_cons_zero, List.set_cons_succ])))
            refine TakeP.nil ?_
            refine wpAnyH_done (by kernel_rfl) ?_ _
            have gX := (gg.trans gE).trans (gx.trans S5)
            have g5x := gx.trans S5
            clear hC
            have ST5 := Lib.hid (ST.out.grew S5)
            have HRd5 := Lib.hid (range_grew HRd.out (gE.trans g5x))
            have HRa5 := Lib.hid (range_grew HRa.out (gE.trans g5x))
            have HD5 := Lib.hid (HD.out.grew (gE.trans g5x))
            have HB45 := Lib.hid ((gE.trans g5x).block HB4.out)
            have hx4 : bR < wx.heap.size := (Array.getElem?_eq_some_iff.1 ((gE.trans gx).block HB4.out)).1
            have hx5 := S5.le
            obtain ⟨r0, r1⟩ := d_cells HRd5.out
            go_upto_region 15 with (at_builtin; refine wpList_append_sl _ rfl (.tmp 79) (.tmp 83) 23 rfl wx.heap.size 29 i0 _ 5 40 Try.underlying23 hi hz0 hz1 hz2 rfl (by decide) (.slice A5 (k + 1) c5) (k + 1) _ rfl OW5.out (tailA B0 e0 k 5) (m0 - k) (e0 - k) _ rfl ST5.out (flat_one ae_ok _) (by unfold maxLen; omega) (by omega) hx5 ?_; intro v7 w7 own7 hg7 hat7; obtain ⟨A7, c7, rfl⟩ := own_form own7; have g57 : Grew wx w7 := S5.grown hg7 (fun j hj => (OW5.out.lt j hj).1))
            clear r0 r1
            have e7 : k + 1 + (m0 - k) = m0 + 1 := by omega
            rw [e7] at own7 ⊢
            have HIX := Lib.hid (insA_at HPOS.out)
            have OW7 : Hid (w7.ownsRow wx.heap.size 29 5 (.slice A7 (m0 + 1) c7) (m0 + 1) ((insA a d.an).flatMap ae)) := by
              unfold Hid
              rw [HIX.out, List.flatMap_append, List.flatMap_cons]
              have h7 := own7
              simp only [List.flatMap_cons, List.flatMap_nil, List.append_nil, List.append_assoc] at h7
              exact h7
            have HLI : Hid ((insA a d.an).length = m0 + 1) := by unfold Hid; rw [insA_len, HLA.out]
            have HAN : Hid (Anss w7 A7 (m0 + 1) c7 (insA a d.an)) := Recs.own HLI.out OW7.out
            have gx7 := gx.trans g57
            have gg7 := (gg.trans gE).trans gx7
            have HRd7 := Lib.hid (range_grew HRd.out (gE.trans gx7))
            have HRa7 := Lib.hid (range_grew HRa.out (gE.trans gx7))
            have HD7 := Lib.hid (HD.out.grew (gE.trans gx7))
            have HB47 := Lib.hid ((gE.trans gx7).block HB4.out)
            clear own7 hg7 hat7 OW5 ST5 HRd5 HRa5 HD5 HB45 hx5 gX g5x S5
            obtain ⟨z, hzz⟩ : ∃ z, findI d.ss a.id = z := ⟨_, rfl⟩
            have HZ := Lib.hid hzz
            clear hzz
            obtain ⟨r0, r1⟩ := d_cells HRd7.out
            obtain ⟨a0, a1, a2, a3, a4⟩ := a_cells0 HRa7.out
            go_wp2_with fail
            clear r0 r1 a0 a1 a2 a3 a4
            refine (rfind_val HD7.out HZ.out).mono ?_
            rintro r w8 ⟨rfl, g8⟩
            have gg8 := gg7.trans g8
            have HRd8 := Lib.hid (range_grew HRd7.out g8)
            have HD8 := Lib.hid (HD7.out.grew g8)
            have HB48 := Lib.hid (g8.block HB47.out)
            have OW8 := Lib.hid (own_grew OW7.out g8)
            have HAN8 := Lib.hid (HAN.out.grew g8)
            clear HRd7 HRa7 HD7 HB47 OW7 HAN gg7 g8
            have gg := gg8
            cases hhi : hasId d.ss a.id with
            | false =>
              have hz0' := findI_miss hhi
              rw [HZ.out] at hz0'
              subst hz0'
              have HE : Hid (applyE d a = 401) := app_state HVP.out HFN.out (by rw [HLA.out]; exact hlim) (stand_none (has_find _ hhi))
              have HDD := Lib.hid (appD_no HE.out (by decide))
              have q : decide ((-1 : Int) < 0) = true := rfl
              clear hhi
              obtain ⟨y0, y1⟩ := d_cells (row_at (l := [.slice none 0 0, .slice none 0 0]) HB48.out)
              have f0 := row_free HB48.out 0
              have f1 := row_free HB48.out 1
              go_wp2_with fail
              refine bodyPost_ret (results_dsk rfl _ _ bR _ rfl (set2 HB48.out _ _) rfl) rfl ?_
              exact ⟨none, 0, 0, none, 0, 0, ret_dsk HE.out.symm, by rw [HDD.out]; exact desk_nil _, (gg.set hbR _).set hbR _⟩
            | true =>
              obtain ⟨z', hz', s0, hs0, hsid⟩ := find_yes hhi
              rw [HZ.out] at hz'
              subst hz'
              have HS0 := Lib.hid hs0
              have HSI := Lib.hid hsid
              have hzn : z' < n0 := by rw [← HL.out]; exact (List.getElem?_eq_some_iff.1 hs0).1
              have HFP : Hid (findP (paysOf d) a.id = some s0.p) := findP_at (stand_parts (valid_parts HV.out).2.2.1).1 (pays_at hs0) hsid
              have HRS := Lib.hid (rst_stand HV.out HP.out HFN.out HFP.out hsid)
              have q : decide ((z' : Int) < 0) = false := decide_eq_false (by omega)
              have z0 : (0 : Int) ≤ (z' : Int) := by omega
              have z1 : (z' : Int) < (n0 : Int) := by omega
              obtain ⟨bs, os, s1, hAs, hs1, hrs⟩ := HD8.out.1.1.at_ se_ok hzn
              have hss : s1 = s0 := by rw [HS0.out] at hs1; exact (Option.some.inj hs1).symm
              subst hss
              obtain ⟨st, hst⟩ : ∃ t, rstB s1.p (insA a d.an) = t := ⟨_, rfl⟩
              have HST := Lib.hid hst
              rw [hst] at HRS
              have HAB : Hid (∀ x ∈ insA a d.an, ansB x = true) := fun x hx => by
                rcases insA_mem.1 hx with rfl | hx
                · exact HP.out
                · exact ((stand_mem (valid_parts HV.out).2.2.1).2.1 x hx).1
              subst hAs
              clear hs0 hsid hhi hst hs1
              obtain ⟨r0, r1⟩ := d_cells HRd8.out
              obtain ⟨p0, p1, p2, p3⟩ := p_cells (s_pay hrs)
              go_wp2_with fail
              clear r0 r1 p0 p1 p2 p3 hrs
              refine (rstand_val HAN8.out HAB.out (by omega) HST.out).mono ?_
              rintro r w9 ⟨sn, hr9, hsn, g9⟩
              rw [sv_eq] at hr9
              subst hr9
              have HSN := Lib.hid hsn
              clear hsn
              obtain ⟨w10, hw10⟩ : ∃ y, y = w9.alloc (.cells #[.int .i64 sn.p.id, .string sn.p.acc, .int .i64 sn.p.c, .int .i64 sn.p.d, .int .i64 sn.st, .int .i64 sn.pd, .int .i64 sn.bk] 43) := ⟨_, rfl⟩
              have g10 : Grew w9 w10 := by rw [hw10]; exact (Grew.refl _).alloc _
              obtain ⟨b9, hb9⟩ : ∃ z, z = w9.heap.size := ⟨_, rfl⟩
              have HR9 : Hid (w10.rangeAt b9 0 (se sn)) := by unfold Hid; rw [hw10, hb9]; exact range_new w9 (se sn) 43
              have g8x := g9.trans g10
              have HRdx := Lib.hid (range_grew HRd8.out g8x)
              have HDx := Lib.hid (HD8.out.grew g8x)
              have HB4x := Lib.hid (g8x.block HB48.out)
              have OWx := Lib.hid (own_grew OW8.out g8x)
              replace gg := gg.trans g8x
              clear HRd8 HD8 HB48 OW8 HAN8 g9 g10 g8x HZ gg8
              go_upto_region 19 with (fail)
              rw [← hw10, ← hb9]
              clear hw10 hb9
              cases st with
              | false =>
                have HE : Hid (applyE d a = 401) := app_state HVP.out HFN.out (by rw [HLA.out]; exact hlim) (by rw [← HRS.out])
                have HDD := Lib.hid (appD_no HE.out (by decide))
                obtain ⟨y0, y1⟩ := d_cells (row_at (l := [.slice none 0 0, .slice none 0 0]) HB4x.out)
                have f0 := row_free HB4x.out 0
                have f1 := row_free HB4x.out 1
                go_wp2_with fail
                refine bodyPost_ret (results_dsk rfl _ _ bR _ rfl (set2 HB4x.out _ _) rfl) rfl ?_
                exact ⟨none, 0, 0, none, 0, 0, ret_dsk HE.out.symm, by rw [HDD.out]; exact desk_nil _, (gg.set hbR _).set hbR _⟩
              | true =>
                have hse := HSN.out rfl
                have HE : Hid (applyE d a = 0) := app_ok HVP.out HFN.out (by rw [HLA.out]; exact hlim) (by rw [← HRS.out])
                have HDD := Lib.hid (appD_ok HE.out HFN.out)
                have HSS : Hid (d.ss.set z' sn = standL (paysOf d) (insA a d.an)) := by unfold Hid; rw [hse]; exact set_standL HV.out HS0.out HSI.out
                clear hse HSN
                obtain ⟨r0, r1⟩ := d_cells HRdx.out
                go_wp2_with fail
                clear r0 r1
                have hcpw : w.heap.size ≤ w10.heap.size := gg.le
                have h9w : b9 < w10.heap.size := by
                  have h1 := HR9.out 0 _ rfl
                  obtain ⟨o1, h2, _⟩ := cells_of_cell h1
                  exact (Array.getElem?_eq_some_iff.1 h2).1
                have h4w := (Array.getElem?_eq_some_iff.1 HB4x.out).1
                refine (copy_any _ _ _ _ _ _ d _ HDx.out (by omega) (by omega)).mono ?_
                rintro r w11 ⟨A1, n1, c1, B1, m1, e1, rfl, hl1, hm1, own1, owa1, g11⟩
                rw [HL.out] at hl1
                rw [HLA.out] at hm1
                subst hl1 hm1
                obtain ⟨gS, hgS⟩ : ∃ g, A1 = some ⟨g, 0, none⟩ := by
                  rcases own1.2 with ⟨h1, h2⟩ | ⟨g, cap, cur, h1, _⟩
                  · omega
                  · injection h1 with h1 _ _; exact ⟨g, h1⟩
                subst hgS
                have hgl := own1.lt gS rfl
                have OS := Lib.hid own1
                have HR9b := Lib.hid (range_grew HR9.out g11)
                have HB4y := Lib.hid (g11.block HB4x.out)
                have OWy := Lib.hid (own_grew OWx.out g11)
                have ggy := gg.trans g11
                have hg9 : b9 ≠ gS := by omega
                have hg4 : bR ≠ gS := by omega
                clear own1 owa1 HR9 HB4x OWx HDx HRdx
                obtain ⟨w12, hw12⟩ : ∃ y, y = w11.alloc (.cells #[.slice (some ⟨gS, 0, none⟩) n0 c1, .slice B1 m0 e1] 25) := ⟨_, rfl⟩
                have g12 : Grew w11 w12 := by rw [hw12]; exact (Grew.refl _).alloc _
                obtain ⟨b11, hb11⟩ : ∃ z, z = w11.heap.size := ⟨_, rfl⟩
                have HB11 : Hid (w12.heap[b11]? = some (.cells #[.slice (some ⟨gS, 0, none⟩) n0 c1, .slice B1 m0 e1] 25)) := by unfold Hid; rw [hw12, hb11]; exact heap_alloc_new _ _
                have hA7 : ∀ j, (Value.slice A7 (m0 + 1) c7).ownBlock = some j → bR < j ∧ j < b11 := fun j hj => by
                  have h1 := OWy.out.lt j hj
                  omega
                have hg11 : gS < b11 ∧ bR < b11 ∧ b9 < b11 := by
                  have := g11.le
                  omega
                have hwb11 : w.heap.size ≤ b11 := by rw [hb11]; exact ggy.le
                have OS2 := Lib.hid (own_grew OS.out g12)
                have HR9c := Lib.hid (range_grew HR9b.out g12)
                have HB4z := Lib.hid (g12.block HB4y.out)
                have OWz := Lib.hid (own_grew OWy.out g12)
                have ggz := ggy.trans g12
                have h12 : b11 < w12.heap.size := (Array.getElem?_eq_some_iff.1 HB11.out).1
                clear OS HR9b HB4y OWy ggy g11 g12
                go_upto_region 22 with (fail)
                rw [← hw12, ← hb11]
                clear hw12 hb11
                obtain ⟨y0, y1⟩ := d_cells (row_at (l := [.slice (some ⟨gS, 0, none⟩) n0 c1, .slice B1 m0 e1]) HB11.out)
                have f1 := row_free HB11.out 1
                go_upto_region 23 with (fail)
                clear y0 y1 f1
                obtain ⟨w13, hw13⟩ : ∃ y, y = w12.setCell ⟨b11, 1, none⟩ (.slice A7 (m0 + 1) c7) := ⟨_, rfl⟩
                have hsg := set_grown w12 b11 1 (.slice A7 (m0 + 1) c7)
                have HB13 : Hid (w13.heap[b11]? = some (.cells #[.slice (some ⟨gS, 0, none⟩) n0 c1, .slice A7 (m0 + 1) c7] 25)) := by rw [hw13]; exact Go.heap_setCell_same w12 b11 1 _ 25 _ HB11.out
                have OS3 : Hid (w13.ownsRow w10.heap.size 43 7 (.slice (some ⟨gS, 0, none⟩) n0 c1) n0 (d.ss.flatMap se)) := by rw [hw13]; exact own_keep OS2.out hsg (fun k hk h9 => by injection hk with hk; exact absurd (show gS = k by simpa [Value.ownBlock] using h9) (by omega))
                have OW3 : Hid (w13.ownsRow wx.heap.size 29 5 (.slice A7 (m0 + 1) c7) (m0 + 1) ((insA a d.an).flatMap ae)) := by rw [hw13]; exact own_keep OWz.out hsg (fun k hk h9 => by injection hk with hk; have := hA7 k h9; omega)
                have HR93 : Hid (w13.rangeAt b9 0 (se sn)) := by rw [hw13]; exact range_far HR9c.out hsg (fun e => by injection e with e; omega)
                have HB43 : Hid (w13.heap[bR]? = some (.cells #[.slice none 0 0, .slice none 0 0] 25)) := by
                  rw [hw13]
                  unfold Hid
                  rw [hsg.block bR (Array.getElem?_eq_some_iff.1 HB4z.out).1 (fun e => by injection e with e; omega)]
                  exact HB4z.out
                have gg3 : Grew w w13 := by rw [hw13]; exact ggz.set hwb11 _
                have h13 : w12.heap.size ≤ w13.heap.size := by rw [hw13]; exact hsg.size
                rw [← hw13]
                clear hw13 hsg HB11 OS2 OWz HR9c HB4z ggz
                have HSR := Recs.own HL.out OS3.out
                obtain ⟨bq, oq, sq, hAq, hsq, hrq⟩ := HSR.at_ se_ok hzn
                injection hAq with hAq
                injection hAq with hq1 hq2
                subst hq1 hq2
                rw [Nat.zero_add] at hrq
                obtain ⟨t0, t1, t2, t3, t4, t5, t6⟩ := s_cells hrq
                have hfr : ∀ j, w13.frozen? ⟨gS, j, none⟩ = false := by
                  rcases OS3.out.2 with ⟨h1, _⟩ | ⟨g, cap, cur, h1, _, h3, _⟩
                  · cases h1
                  · injection h1 with h1 _ _
                    injection h1 with h1
                    injection h1 with h1 _
                    subst h1
                    exact fun j => row_free h3 j
                obtain ⟨x0, x1⟩ := d_cells (row_at (l := [.slice (some ⟨gS, 0, none⟩) n0 c1, .slice A7 (m0 + 1) c7]) HB13.out)
                obtain ⟨v0, v1, v2, v3, v4, v5, v6⟩ := s_cells0 HR93.out
                have fr0 := hfr (z' * 7)
                have fr1 := hfr (z' * 7 + 1)
                have fr2 := hfr (z' * 7 + 2)
                have fr3 := hfr (z' * 7 + 3)
                have fr4 := hfr (z' * 7 + 4)
                have fr5 := hfr (z' * 7 + 5)
                have fr6 := hfr (z' * 7 + 6)
                clear hrq HSR hsq hfr
                go_upto_region 24 with (fail)
                clear t0 t1 t2 t3 t4 t5 t6 x0 x1 v0 v1 v2 v3 v4 v5 v6 fr0 fr1 fr2 fr3 fr4 fr5 fr6
                obtain ⟨w14, hw14⟩ : ∃ y, y = ((((((w13.setCell ⟨gS, z' * 7, none⟩ (.int .i64 sn.p.id)).setCell ⟨gS, z' * 7 + 1, none⟩ (.string sn.p.acc)).setCell ⟨gS, z' * 7 + 2, none⟩ (.int .i64 sn.p.c)).setCell ⟨gS, z' * 7 + 3, none⟩ (.int .i64 sn.p.d)).setCell ⟨gS, z' * 7 + 4, none⟩ (.int .i64 sn.st)).setCell ⟨gS, z' * 7 + 5, none⟩ (.int .i64 sn.pd)).setCell ⟨gS, z' * 7 + 6, none⟩ (.int .i64 sn.bk) := ⟨_, rfl⟩
                have OS4 : Hid (w14.ownsRow w10.heap.size 43 7 (.slice (some ⟨gS, 0, none⟩) n0 c1) n0 ((d.ss.set z' sn).flatMap se)) := by
                  rw [hw14, ← flat_set7 sn d.ss z' (by rw [HL.out]; exact hzn)]
                  exact seven _ _ _ _ _ _ _ OS3.out
                have hA7g : (Value.slice A7 (m0 + 1) c7).ownBlock ≠ some gS := own_ne OS3.out OW3.out (by decide) rfl
                have OW4 : Hid (w14.ownsRow wx.heap.size 29 5 (.slice A7 (m0 + 1) c7) (m0 + 1) ((insA a d.an).flatMap ae)) := by rw [hw14]; exact seven_keep _ _ _ _ _ _ _ OW3.out hA7g
                have HB14 : Hid (w14.heap[b11]? = some (.cells #[.slice (some ⟨gS, 0, none⟩) n0 c1, .slice A7 (m0 + 1) c7] 25)) := by
                  rw [hw14]
                  unfold Hid
                  rw [seven_far _ _ _ _ _ _ _ (Array.getElem?_eq_some_iff.1 HB13.out).1 (by omega)]
                  exact HB13.out
                have HB44 : Hid (w14.heap[bR]? = some (.cells #[.slice none 0 0, .slice none 0 0] 25)) := by
                  rw [hw14]
                  unfold Hid
                  rw [seven_far _ _ _ _ _ _ _ (Array.getElem?_eq_some_iff.1 HB43.out).1 (by omega)]
                  exact HB43.out
                have gg4 : Grew w w14 := by rw [hw14]; exact seven_grew _ _ _ _ _ _ _ gg3 (by omega)
                rw [← hw14]
                clear hw14 HB13 HB43 gg3 OS3 OW3 HR93
                obtain ⟨x0, x1⟩ := d_cells (row_at (l := [.slice (some ⟨gS, 0, none⟩) n0 c1, .slice A7 (m0 + 1) c7]) HB14.out)
                obtain ⟨y0, y1⟩ := d_cells (row_at (l := [.slice none 0 0, .slice none 0 0]) HB44.out)
                have f0 := row_free HB44.out 0
                have f1 := row_free HB44.out 1
                go_wp2_with fail
                refine bodyPost_ret (results_dsk rfl _ _ bR _ rfl (set2 HB44.out _ _) rfl) rfl ?_
                refine ⟨some ⟨gS, 0, none⟩, n0, c1, A7, m0 + 1, c7, ret_dsk HE.out.symm, ?_, (gg4.set hbR _).set hbR _⟩
                rw [HDD.out, ← HSS.out]
                have k1 : ∀ k, some bR = some k → (Value.slice (some ⟨gS, 0, none⟩) n0 c1).ownBlock ≠ some k := fun k hk h9 => by injection hk with hk; exact absurd (show gS = k by simpa [Value.ownBlock] using h9) (by omega)
                have k2 : ∀ k, some bR = some k → (Value.slice A7 (m0 + 1) c7).ownBlock ≠ some k := fun k hk h9 => by injection hk with hk; have := hA7 k h9; omega
                exact ⟨⟨Recs.own (by rw [List.length_set, HL.out]) (own_keep (own_keep OS4.out (set_grown _ bR 0 _) k1) (set_grown _ bR 1 _) k1), by rw [HSS.out]; exact wf_set rfl HWF.out⟩, Recs.own HLI.out (own_keep (own_keep OW4.out (set_grown _ bR 0 _) k2) (set_grown _ bR 1 _) k2)⟩
          · intro K hK
            go_simp
            have S0 := (Grew.refl wx).alloc (.cells #[.int .i64 a.q, .int .i64 a.id, .int .i64 a.k, .int .i64 a.c, .int .i64 a.d] 29)
            refine hK _ _ S0 ?_
            clear hK K
            have BI := Lib.hid (Recs.built (w := wx) ae_ok (t := 29) (l := [a]) (n := 1) #[.int .i64 a.q, .int .i64 a.id, .int .i64 a.k, .int .i64 a.c, .int .i64 a.d] rfl rfl (by decide))
            obtain ⟨w2, hw2⟩ : ∃ y, y = wx.alloc (.cells #[.int .i64 a.q, .int .i64 a.id, .int .i64 a.k, .int .i64 a.c, .int .i64 a.d] 29) := ⟨_, rfl⟩
            rw [← hw2] at S0 BI ⊢
            obtain ⟨b4, hb4⟩ : ∃ z, z = wx.heap.size := ⟨_, rfl⟩
            rw [← hb4] at BI ⊢
            clear hw2 hb4
            refine wpAnyH_step (i := 5) (by kernel_rfl) (fuel' := 2) (by kernel_rfl) (by simp only [pickOps, List.getElem?_toArray, List.getElem?_cons_zero, List.getElem?_cons_succ]; rfl) (by rfl) ?_
            intro K hK
            refine wp_append_sl _ (.tmp 70) (.tmp 74) 23 rfl wx.heap.size 29 i0 _ 5 40 Try.underlying23 hi hz0 hz1 hz2 rfl (by decide) (.slice none 0 0) 0 _ rfl (World.ownsRow_nil _ _ _ _) B0 k e0 _ rfl (SH.out.grew S0) (flat_one ae_ok _) (by unfold maxLen; omega) (by omega) (S0).le ?_
            intro v3 w3 own3 hg3 hat3
            obtain ⟨A3, c3, rfl⟩ := own_form own3
            rw [Nat.zero_add, List.nil_append] at own3
            have S3 : Grew wx w3 := (S0).grown hg3 (fun j hj => by cases hj)
            rw [Nat.zero_add]
            refine hK _ _ S3 ?_
            clear hK K
            simp only [Act.put, List.setIfInBounds_toArray, List.set_cons_zero, List.set_cons_succ]
            clear hat3
            have g3 : Grew w2 w3 := (Grew.refl w2).grown hg3 (fun j hj => by cases hj)
            replace BI := Lib.hid (BI.out.grew g3)
            have OW4 := Lib.hid own3
            obtain ⟨w4, hw4⟩ : ∃ y, y = w3 := ⟨_, rfl⟩
            rw [← hw4] at S3 BI OW4 ⊢
            have S4 := S3
            clear hw4 own3 hg3 g3 S3 S0
            refine wpAnyH_step (i := 8) (by kernel_rfl) (fuel' := 1) (by kernel_rfl) (by simp only [pickOps, List.getElem?_toArray, List.getElem?_cons_zero, List.getElem?_cons_succ]; rfl) (by rfl) ?_
            intro K hK
            refine wp_append_sl _ (.tmp 75) (.tmp 77) 23 rfl wx.heap.size 29 i0 _ 5 40 Try.underlying23 hi hz0 hz1 hz2 rfl (by decide) (.slice A3 k c3) k _ rfl OW4.out (some ⟨b4, 0, none⟩) 1 1 _ rfl BI.out.2 (flat_one ae_ok _) (by unfold maxLen; omega) (by omega) S4.le ?_
            intro v5 w5 own5 hg5 hat5
            obtain ⟨A5, c5, rfl⟩ := own_form own5
            have S5 : Grew wx w5 := S4.grown hg5 (fun j hj => (OW4.out.lt j hj).1)
            refine hK _ _ S5 ?_
            clear hK K
            simp only [Act.put, List.setIfInBounds_toArray, List.set_cons_zero, List.set_cons_succ]
            have OW5 := Lib.hid own5
            clear own5 hg5 hat5 OW4 BI S4
            refine wpAnyH_takes (fun _ _ _ _ _ h => h) S5 [9] (fuel' := 0) (by kernel_rfl) (by kernel_rfl) (by simp only [pickOps, List.getElem?_toArray, List.getElem?_cons_zero, List.getElem?_cons_succ]; rfl) ?_
            repeat (first
              | (refine TakeP.pure (v := ?_) (by rfl) ?_ ?_; rotate_left; (intro w' g'; go_simp; first | done | with_reducible rfl); (simp only [Act.put, List.setIfInBounds_toArray, List.set_cons_zero, List.set_cons_succ])))
            refine TakeP.nil ?_
            refine wpAnyH_done (by kernel_rfl) ?_ _
            have gX := (gg.trans gE).trans (gx.trans S5)
            have g5x := gx.trans S5
            clear hC
            have ST5 := Lib.hid (ST.out.grew S5)
            have HRd5 := Lib.hid (range_grew HRd.out (gE.trans g5x))
            have HRa5 := Lib.hid (range_grew HRa.out (gE.trans g5x))
            have HD5 := Lib.hid (HD.out.grew (gE.trans g5x))
            have HB45 := Lib.hid ((gE.trans g5x).block HB4.out)
            have hx4 : bR < wx.heap.size := (Array.getElem?_eq_some_iff.1 ((gE.trans gx).block HB4.out)).1
            have hx5 := S5.le
            obtain ⟨r0, r1⟩ := d_cells HRd5.out
            go_upto_region 15 with (at_builtin; refine wpList_append_sl _ rfl (.tmp 79) (.tmp 83) 23 rfl wx.heap.size 29 i0 _ 5 40 Try.underlying23 hi hz0 hz1 hz2 rfl (by decide) (.slice A5 (k + 1) c5) (k + 1) _ rfl OW5.out (tailA B0 e0 k 5) (m0 - k) (e0 - k) _ rfl ST5.out (flat_one ae_ok _) (by unfold maxLen; omega) (by omega) hx5 ?_; intro v7 w7 own7 hg7 hat7; obtain ⟨A7, c7, rfl⟩ := own_form own7; have g57 : Grew wx w7 := S5.grown hg7 (fun j hj => (OW5.out.lt j hj).1))
            clear r0 r1
            have e7 : k + 1 + (m0 - k) = m0 + 1 := by omega
            rw [e7] at own7 ⊢
            have HIX := Lib.hid (insA_at HPOS.out)
            have OW7 : Hid (w7.ownsRow wx.heap.size 29 5 (.slice A7 (m0 + 1) c7) (m0 + 1) ((insA a d.an).flatMap ae)) := by
              unfold Hid
              rw [HIX.out, List.flatMap_append, List.flatMap_cons]
              have h7 := own7
              simp only [List.flatMap_cons, List.flatMap_nil, List.append_nil, List.append_assoc] at h7
              exact h7
            have HLI : Hid ((insA a d.an).length = m0 + 1) := by unfold Hid; rw [insA_len, HLA.out]
            have HAN : Hid (Anss w7 A7 (m0 + 1) c7 (insA a d.an)) := Recs.own HLI.out OW7.out
            have gx7 := gx.trans g57
            have gg7 := (gg.trans gE).trans gx7
            have HRd7 := Lib.hid (range_grew HRd.out (gE.trans gx7))
            have HRa7 := Lib.hid (range_grew HRa.out (gE.trans gx7))
            have HD7 := Lib.hid (HD.out.grew (gE.trans gx7))
            have HB47 := Lib.hid ((gE.trans gx7).block HB4.out)
            clear own7 hg7 hat7 OW5 ST5 HRd5 HRa5 HD5 HB45 hx5 gX g5x S5
            obtain ⟨z, hzz⟩ : ∃ z, findI d.ss a.id = z := ⟨_, rfl⟩
            have HZ := Lib.hid hzz
            clear hzz
            obtain ⟨r0, r1⟩ := d_cells HRd7.out
            obtain ⟨a0, a1, a2, a3, a4⟩ := a_cells0 HRa7.out
            go_wp2_with fail
            clear r0 r1 a0 a1 a2 a3 a4
            refine (rfind_val HD7.out HZ.out).mono ?_
            rintro r w8 ⟨rfl, g8⟩
            have gg8 := gg7.trans g8
            have HRd8 := Lib.hid (range_grew HRd7.out g8)
            have HD8 := Lib.hid (HD7.out.grew g8)
            have HB48 := Lib.hid (g8.block HB47.out)
            have OW8 := Lib.hid (own_grew OW7.out g8)
            have HAN8 := Lib.hid (HAN.out.grew g8)
            clear HRd7 HRa7 HD7 HB47 OW7 HAN gg7 g8
            have gg := gg8
            cases hhi : hasId d.ss a.id with
            | false =>
              have hz0' := findI_miss hhi
              rw [HZ.out] at hz0'
              subst hz0'
              have HE : Hid (applyE d a = 401) := app_state HVP.out HFN.out (by rw [HLA.out]; exact hlim) (stand_none (has_find _ hhi))
              have HDD := Lib.hid (appD_no HE.out (by decide))
              have q : decide ((-1 : Int) < 0) = true := rfl
              clear hhi
              obtain ⟨y0, y1⟩ := d_cells (row_at (l := [.slice none 0 0, .slice none 0 0]) HB48.out)
              have f0 := row_free HB48.out 0
              have f1 := row_free HB48.out 1
              go_wp2_with fail
              refine bodyPost_ret (results_dsk rfl _ _ bR _ rfl (set2 HB48.out _ _) rfl) rfl ?_
              exact ⟨none, 0, 0, none, 0, 0, ret_dsk HE.out.symm, by rw [HDD.out]; exact desk_nil _, (gg.set hbR _).set hbR _⟩
            | true =>
              obtain ⟨z', hz', s0, hs0, hsid⟩ := find_yes hhi
              rw [HZ.out] at hz'
              subst hz'
              have HS0 := Lib.hid hs0
              have HSI := Lib.hid hsid
              have hzn : z' < n0 := by rw [← HL.out]; exact (List.getElem?_eq_some_iff.1 hs0).1
              have HFP : Hid (findP (paysOf d) a.id = some s0.p) := findP_at (stand_parts (valid_parts HV.out).2.2.1).1 (pays_at hs0) hsid
              have HRS := Lib.hid (rst_stand HV.out HP.out HFN.out HFP.out hsid)
              have q : decide ((z' : Int) < 0) = false := decide_eq_false (by omega)
              have z0 : (0 : Int) ≤ (z' : Int) := by omega
              have z1 : (z' : Int) < (n0 : Int) := by omega
              obtain ⟨bs, os, s1, hAs, hs1, hrs⟩ := HD8.out.1.1.at_ se_ok hzn
              have hss : s1 = s0 := by rw [HS0.out] at hs1; exact (Option.some.inj hs1).symm
              subst hss
              obtain ⟨st, hst⟩ : ∃ t, rstB s1.p (insA a d.an) = t := ⟨_, rfl⟩
              have HST := Lib.hid hst
              rw [hst] at HRS
              have HAB : Hid (∀ x ∈ insA a d.an, ansB x = true) := fun x hx => by
                rcases insA_mem.1 hx with rfl | hx
                · exact HP.out
                · exact ((stand_mem (valid_parts HV.out).2.2.1).2.1 x hx).1
              subst hAs
              clear hs0 hsid hhi hst hs1
              obtain ⟨r0, r1⟩ := d_cells HRd8.out
              obtain ⟨p0, p1, p2, p3⟩ := p_cells (s_pay hrs)
              go_wp2_with fail
              clear r0 r1 p0 p1 p2 p3 hrs
              refine (rstand_val HAN8.out HAB.out (by omega) HST.out).mono ?_
              rintro r w9 ⟨sn, hr9, hsn, g9⟩
              rw [sv_eq] at hr9
              subst hr9
              have HSN := Lib.hid hsn
              clear hsn
              obtain ⟨w10, hw10⟩ : ∃ y, y = w9.alloc (.cells #[.int .i64 sn.p.id, .string sn.p.acc, .int .i64 sn.p.c, .int .i64 sn.p.d, .int .i64 sn.st, .int .i64 sn.pd, .int .i64 sn.bk] 43) := ⟨_, rfl⟩
              have g10 : Grew w9 w10 := by rw [hw10]; exact (Grew.refl _).alloc _
              obtain ⟨b9, hb9⟩ : ∃ z, z = w9.heap.size := ⟨_, rfl⟩
              have HR9 : Hid (w10.rangeAt b9 0 (se sn)) := by unfold Hid; rw [hw10, hb9]; exact range_new w9 (se sn) 43
              have g8x := g9.trans g10
              have HRdx := Lib.hid (range_grew HRd8.out g8x)
              have HDx := Lib.hid (HD8.out.grew g8x)
              have HB4x := Lib.hid (g8x.block HB48.out)
              have OWx := Lib.hid (own_grew OW8.out g8x)
              replace gg := gg.trans g8x
              clear HRd8 HD8 HB48 OW8 HAN8 g9 g10 g8x HZ gg8
              go_upto_region 19 with (fail)
              rw [← hw10, ← hb9]
              clear hw10 hb9
              cases st with
              | false =>
                have HE : Hid (applyE d a = 401) := app_state HVP.out HFN.out (by rw [HLA.out]; exact hlim) (by rw [← HRS.out])
                have HDD := Lib.hid (appD_no HE.out (by decide))
                obtain ⟨y0, y1⟩ := d_cells (row_at (l := [.slice none 0 0, .slice none 0 0]) HB4x.out)
                have f0 := row_free HB4x.out 0
                have f1 := row_free HB4x.out 1
                go_wp2_with fail
                refine bodyPost_ret (results_dsk rfl _ _ bR _ rfl (set2 HB4x.out _ _) rfl) rfl ?_
                exact ⟨none, 0, 0, none, 0, 0, ret_dsk HE.out.symm, by rw [HDD.out]; exact desk_nil _, (gg.set hbR _).set hbR _⟩
              | true =>
                have hse := HSN.out rfl
                have HE : Hid (applyE d a = 0) := app_ok HVP.out HFN.out (by rw [HLA.out]; exact hlim) (by rw [← HRS.out])
                have HDD := Lib.hid (appD_ok HE.out HFN.out)
                have HSS : Hid (d.ss.set z' sn = standL (paysOf d) (insA a d.an)) := by unfold Hid; rw [hse]; exact set_standL HV.out HS0.out HSI.out
                clear hse HSN
                obtain ⟨r0, r1⟩ := d_cells HRdx.out
                go_wp2_with fail
                clear r0 r1
                have hcpw : w.heap.size ≤ w10.heap.size := gg.le
                have h9w : b9 < w10.heap.size := by
                  have h1 := HR9.out 0 _ rfl
                  obtain ⟨o1, h2, _⟩ := cells_of_cell h1
                  exact (Array.getElem?_eq_some_iff.1 h2).1
                have h4w := (Array.getElem?_eq_some_iff.1 HB4x.out).1
                refine (copy_any _ _ _ _ _ _ d _ HDx.out (by omega) (by omega)).mono ?_
                rintro r w11 ⟨A1, n1, c1, B1, m1, e1, rfl, hl1, hm1, own1, owa1, g11⟩
                rw [HL.out] at hl1
                rw [HLA.out] at hm1
                subst hl1 hm1
                obtain ⟨gS, hgS⟩ : ∃ g, A1 = some ⟨g, 0, none⟩ := by
                  rcases own1.2 with ⟨h1, h2⟩ | ⟨g, cap, cur, h1, _⟩
                  · omega
                  · injection h1 with h1 _ _; exact ⟨g, h1⟩
                subst hgS
                have hgl := own1.lt gS rfl
                have OS := Lib.hid own1
                have HR9b := Lib.hid (range_grew HR9.out g11)
                have HB4y := Lib.hid (g11.block HB4x.out)
                have OWy := Lib.hid (own_grew OWx.out g11)
                have ggy := gg.trans g11
                have hg9 : b9 ≠ gS := by omega
                have hg4 : bR ≠ gS := by omega
                clear own1 owa1 HR9 HB4x OWx HDx HRdx
                obtain ⟨w12, hw12⟩ : ∃ y, y = w11.alloc (.cells #[.slice (some ⟨gS, 0, none⟩) n0 c1, .slice B1 m0 e1] 25) := ⟨_, rfl⟩
                have g12 : Grew w11 w12 := by rw [hw12]; exact (Grew.refl _).alloc _
                obtain ⟨b11, hb11⟩ : ∃ z, z = w11.heap.size := ⟨_, rfl⟩
                have HB11 : Hid (w12.heap[b11]? = some (.cells #[.slice (some ⟨gS, 0, none⟩) n0 c1, .slice B1 m0 e1] 25)) := by unfold Hid; rw [hw12, hb11]; exact heap_alloc_new _ _
                have hA7 : ∀ j, (Value.slice A7 (m0 + 1) c7).ownBlock = some j → bR < j ∧ j < b11 := fun j hj => by
                  have h1 := OWy.out.lt j hj
                  omega
                have hg11 : gS < b11 ∧ bR < b11 ∧ b9 < b11 := by
                  have := g11.le
                  omega
                have hwb11 : w.heap.size ≤ b11 := by rw [hb11]; exact ggy.le
                have OS2 := Lib.hid (own_grew OS.out g12)
                have HR9c := Lib.hid (range_grew HR9b.out g12)
                have HB4z := Lib.hid (g12.block HB4y.out)
                have OWz := Lib.hid (own_grew OWy.out g12)
                have ggz := ggy.trans g12
                have h12 : b11 < w12.heap.size := (Array.getElem?_eq_some_iff.1 HB11.out).1
                clear OS HR9b HB4y OWy ggy g11 g12
                go_upto_region 22 with (fail)
                rw [← hw12, ← hb11]
                clear hw12 hb11
                obtain ⟨y0, y1⟩ := d_cells (row_at (l := [.slice (some ⟨gS, 0, none⟩) n0 c1, .slice B1 m0 e1]) HB11.out)
                have f1 := row_free HB11.out 1
                go_upto_region 23 with (fail)
                clear y0 y1 f1
                obtain ⟨w13, hw13⟩ : ∃ y, y = w12.setCell ⟨b11, 1, none⟩ (.slice A7 (m0 + 1) c7) := ⟨_, rfl⟩
                have hsg := set_grown w12 b11 1 (.slice A7 (m0 + 1) c7)
                have HB13 : Hid (w13.heap[b11]? = some (.cells #[.slice (some ⟨gS, 0, none⟩) n0 c1, .slice A7 (m0 + 1) c7] 25)) := by rw [hw13]; exact Go.heap_setCell_same w12 b11 1 _ 25 _ HB11.out
                have OS3 : Hid (w13.ownsRow w10.heap.size 43 7 (.slice (some ⟨gS, 0, none⟩) n0 c1) n0 (d.ss.flatMap se)) := by rw [hw13]; exact own_keep OS2.out hsg (fun k hk h9 => by injection hk with hk; exact absurd (show gS = k by simpa [Value.ownBlock] using h9) (by omega))
                have OW3 : Hid (w13.ownsRow wx.heap.size 29 5 (.slice A7 (m0 + 1) c7) (m0 + 1) ((insA a d.an).flatMap ae)) := by rw [hw13]; exact own_keep OWz.out hsg (fun k hk h9 => by injection hk with hk; have := hA7 k h9; omega)
                have HR93 : Hid (w13.rangeAt b9 0 (se sn)) := by rw [hw13]; exact range_far HR9c.out hsg (fun e => by injection e with e; omega)
                have HB43 : Hid (w13.heap[bR]? = some (.cells #[.slice none 0 0, .slice none 0 0] 25)) := by
                  rw [hw13]
                  unfold Hid
                  rw [hsg.block bR (Array.getElem?_eq_some_iff.1 HB4z.out).1 (fun e => by injection e with e; omega)]
                  exact HB4z.out
                have gg3 : Grew w w13 := by rw [hw13]; exact ggz.set hwb11 _
                have h13 : w12.heap.size ≤ w13.heap.size := by rw [hw13]; exact hsg.size
                rw [← hw13]
                clear hw13 hsg HB11 OS2 OWz HR9c HB4z ggz
                have HSR := Recs.own HL.out OS3.out
                obtain ⟨bq, oq, sq, hAq, hsq, hrq⟩ := HSR.at_ se_ok hzn
                injection hAq with hAq
                injection hAq with hq1 hq2
                subst hq1 hq2
                rw [Nat.zero_add] at hrq
                obtain ⟨t0, t1, t2, t3, t4, t5, t6⟩ := s_cells hrq
                have hfr : ∀ j, w13.frozen? ⟨gS, j, none⟩ = false := by
                  rcases OS3.out.2 with ⟨h1, _⟩ | ⟨g, cap, cur, h1, _, h3, _⟩
                  · cases h1
                  · injection h1 with h1 _ _
                    injection h1 with h1
                    injection h1 with h1 _
                    subst h1
                    exact fun j => row_free h3 j
                obtain ⟨x0, x1⟩ := d_cells (row_at (l := [.slice (some ⟨gS, 0, none⟩) n0 c1, .slice A7 (m0 + 1) c7]) HB13.out)
                obtain ⟨v0, v1, v2, v3, v4, v5, v6⟩ := s_cells0 HR93.out
                have fr0 := hfr (z' * 7)
                have fr1 := hfr (z' * 7 + 1)
                have fr2 := hfr (z' * 7 + 2)
                have fr3 := hfr (z' * 7 + 3)
                have fr4 := hfr (z' * 7 + 4)
                have fr5 := hfr (z' * 7 + 5)
                have fr6 := hfr (z' * 7 + 6)
                clear hrq HSR hsq hfr
                go_upto_region 24 with (fail)
                clear t0 t1 t2 t3 t4 t5 t6 x0 x1 v0 v1 v2 v3 v4 v5 v6 fr0 fr1 fr2 fr3 fr4 fr5 fr6
                obtain ⟨w14, hw14⟩ : ∃ y, y = ((((((w13.setCell ⟨gS, z' * 7, none⟩ (.int .i64 sn.p.id)).setCell ⟨gS, z' * 7 + 1, none⟩ (.string sn.p.acc)).setCell ⟨gS, z' * 7 + 2, none⟩ (.int .i64 sn.p.c)).setCell ⟨gS, z' * 7 + 3, none⟩ (.int .i64 sn.p.d)).setCell ⟨gS, z' * 7 + 4, none⟩ (.int .i64 sn.st)).setCell ⟨gS, z' * 7 + 5, none⟩ (.int .i64 sn.pd)).setCell ⟨gS, z' * 7 + 6, none⟩ (.int .i64 sn.bk) := ⟨_, rfl⟩
                have OS4 : Hid (w14.ownsRow w10.heap.size 43 7 (.slice (some ⟨gS, 0, none⟩) n0 c1) n0 ((d.ss.set z' sn).flatMap se)) := by
                  rw [hw14, ← flat_set7 sn d.ss z' (by rw [HL.out]; exact hzn)]
                  exact seven _ _ _ _ _ _ _ OS3.out
                have hA7g : (Value.slice A7 (m0 + 1) c7).ownBlock ≠ some gS := own_ne OS3.out OW3.out (by decide) rfl
                have OW4 : Hid (w14.ownsRow wx.heap.size 29 5 (.slice A7 (m0 + 1) c7) (m0 + 1) ((insA a d.an).flatMap ae)) := by rw [hw14]; exact seven_keep _ _ _ _ _ _ _ OW3.out hA7g
                have HB14 : Hid (w14.heap[b11]? = some (.cells #[.slice (some ⟨gS, 0, none⟩) n0 c1, .slice A7 (m0 + 1) c7] 25)) := by
                  rw [hw14]
                  unfold Hid
                  rw [seven_far _ _ _ _ _ _ _ (Array.getElem?_eq_some_iff.1 HB13.out).1 (by omega)]
                  exact HB13.out
                have HB44 : Hid (w14.heap[bR]? = some (.cells #[.slice none 0 0, .slice none 0 0] 25)) := by
                  rw [hw14]
                  unfold Hid
                  rw [seven_far _ _ _ _ _ _ _ (Array.getElem?_eq_some_iff.1 HB43.out).1 (by omega)]
                  exact HB43.out
                have gg4 : Grew w w14 := by rw [hw14]; exact seven_grew _ _ _ _ _ _ _ gg3 (by omega)
                rw [← hw14]
                clear hw14 HB13 HB43 gg3 OS3 OW3 HR93
                obtain ⟨x0, x1⟩ := d_cells (row_at (l := [.slice (some ⟨gS, 0, none⟩) n0 c1, .slice A7 (m0 + 1) c7]) HB14.out)
                obtain ⟨y0, y1⟩ := d_cells (row_at (l := [.slice none 0 0, .slice none 0 0]) HB44.out)
                have f0 := row_free HB44.out 0
                have f1 := row_free HB44.out 1
                go_wp2_with fail
                refine bodyPost_ret (results_dsk rfl _ _ bR _ rfl (set2 HB44.out _ _) rfl) rfl ?_
                refine ⟨some ⟨gS, 0, none⟩, n0, c1, A7, m0 + 1, c7, ret_dsk HE.out.symm, ?_, (gg4.set hbR _).set hbR _⟩
                rw [HDD.out, ← HSS.out]
                have k1 : ∀ k, some bR = some k → (Value.slice (some ⟨gS, 0, none⟩) n0 c1).ownBlock ≠ some k := fun k hk h9 => by injection hk with hk; exact absurd (show gS = k by simpa [Value.ownBlock] using h9) (by omega)
                have k2 : ∀ k, some bR = some k → (Value.slice A7 (m0 + 1) c7).ownBlock ≠ some k := fun k hk h9 => by injection hk with hk; have := hA7 k h9; omega
                exact ⟨⟨Recs.own (by rw [List.length_set, HL.out]) (own_keep (own_keep OS4.out (set_grown _ bR 0 _) k1) (set_grown _ bR 1 _) k1), by rw [HSS.out]; exact wf_set rfl HWF.out⟩, Recs.own HLI.out (own_keep (own_keep OW4.out (set_grown _ bR 0 _) k2) (set_grown _ bR 1 _) k2)⟩
end Go.Proofs.Ytaocjobbfcfleaa
