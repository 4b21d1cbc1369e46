/-
  SettleAppends: the law's walk, its closure.
-/
import Derived.Test.YtaocjobbfcfleaaLSm
import Derived.Test.YtaocjobbfcfleaaLawR
namespace Go.Proofs.Ytaocjobbfcfleaa
open Go.RowKit Go.Proofs WageMem WageOrd WageRec WageMap WageReg WageSet
theorem c_cell {w : World} {b : Nat} {v : Value} (h : w.rangeAt b 0 [v]) : w.cell? ⟨b, 0, none⟩ = some v := by
  have h0 := h 0 _ rfl
  simpa only [Nat.zero_add] using h0
set_option maxRecDepth 100000 in
set_option maxHeartbeats 16000000 in
theorem within_any (A : Option Addr) (n c : Nat) (A2 : Option Addr) (n2 c2 : Nat) (before after : List Ent) (bb : Nat) (w : World) (ha : Ents w A2 n2 c2 after) (hb : Ents w A n c before) (hx : w.rangeAt bb 0 [.slice A n c]) (hn : n ≤ 3000) (hn2 : n2 ≤ 3000) :
    Calls Try.prog 24 #[.slice A2 n2 c2, .pointer (some ⟨bb, 0, none⟩)] w fun r w' => r = .returned (.bool (decide (goK before after 0 = before.length))) ∧ Grew w w' := by
  have HB := Lib.hid hb.1
  have HC := Lib.hid ha.1
  have LA := Lib.hid hb.1.1
  have LC := Lib.hid ha.1.1
  have HBX := Lib.hid hx
  have c0 := hx 0 _ rfl
  simp only [Nat.zero_add] at c0
  clear hx ha hb
  go_enter Try.func24, Try.ntmps24
  go_wp2_with fail
  go_loopw [4, 9] (fun v i y => ∃ k : Nat, k ≤ n2 ∧ i = .int .i64 k ∧ v = .int .i64 (goK before (after.take k) 0 : Nat) ∧ Grew w y) (fun _ i _ => n2 - (intOf i).toNat)
  case atStart => exact ⟨0, Nat.zero_le _, rfl, rfl, Grew.refl _⟩
  case round =>
    clear c0
    obtain ⟨k, hk, rfl, rfl, hg⟩ := hrel
    have hgk := goK_le before (after.take k) 0 (Nat.zero_le _)
    rw [LA.out] at hgk
    obtain ⟨Z, hZ⟩ : ∃ Z, goK before (after.take k) 0 = Z := ⟨_, rfl⟩
    have HZ := Lib.hid hZ
    rw [hZ] at hgk ⊢
    clear hZ
    by_cases hlt : k < n2
    · obtain ⟨b, o, x, hAx, hx, hr⟩ := (HC.out.grew hg).at_ ne_ok hlt
      have HX := Lib.hid hx
      have HZ2 : Hid (goK before (after.take (k + 1)) 0 = if before[Z]? = some x then Z + 1 else Z) := by unfold Hid; rw [List.take_add_one, HX.out, Option.toList_some, goK_snoc, HZ.out]
      have k0 : (0 : Int) ≤ (k : Int) := by omega
      have k1 : (k : Int) < (n2 : Int) := by omega
      obtain ⟨c0, c1, c2', c3, c4, c5⟩ := n_cells hr
      obtain ⟨wa, hwa⟩ : ∃ y, y = wr.alloc (.cells #[.int .i64 x.id, .string x.de, .string x.cr, .int .i64 x.c, .int .i64 x.d, .int .i64 x.b] 50) := ⟨_, rfl⟩
      have ga : Grew wr wa := by rw [hwa]; exact (Grew.refl wr).alloc _
      obtain ⟨bx, hbx⟩ : ∃ b, b = wr.heap.size := ⟨_, rfl⟩
      have HRX : Hid (wa.rangeAt bx 0 (ne x)) := by unfold Hid; rw [hwa, hbx]; exact range_new wr (ne x) 50
      have gA := hg.trans ga
      have HBa := Lib.hid (HB.out.grew gA)
      subst hAx
      clear hr hx
      go_upto_region 5 with (fail)
      rw [← hwa, ← hbx]
      clear hwa hbx c0 c1 c2' c3 c4 c5
      have HBXd := Lib.hid (range_grew HBX.out (gA.trans (Grew.refl wa).drew))
      have HRXd := Lib.hid (range_grew HRX.out (Grew.refl wa).drew)
      by_cases hzl : Z < n
      · obtain ⟨b', o', y, hAy, hy, hry⟩ := (HBa.out.grew (Grew.refl wa).drew).at_ ne_ok hzl
        have HY := Lib.hid hy
        have qz : decide ((Z : Int) < (n : Int)) = true := decide_eq_true (by omega)
        have z0 : (0 : Int) ≤ (Z : Int) := by omega
        have z1' : (Z : Int) < (n : Int) := by omega
        subst hAy
        have hC : ∀ w', Grew wa.drew w' → (w'.cell? ⟨bb, 0, none⟩ = some (.slice (some ⟨b', o', none⟩) n c)) ∧ (w'.cell? ⟨bx, 0, none⟩ = some (.int .i64 x.id) ∧ w'.cell? ⟨bx, 1, none⟩ = some (.string x.de) ∧ w'.cell? ⟨bx, 2, none⟩ = some (.string x.cr) ∧ w'.cell? ⟨bx, 3, none⟩ = some (.int .i64 x.c) ∧ w'.cell? ⟨bx, 4, none⟩ = some (.int .i64 x.d) ∧ w'.cell? ⟨bx, 5, none⟩ = some (.int .i64 x.b)) ∧ (w'.cell? ⟨b', o' + Z * 6, none⟩ = some (.int .i64 y.id) ∧ w'.cell? ⟨b', o' + Z * 6 + 1, none⟩ = some (.string y.de) ∧ w'.cell? ⟨b', o' + Z * 6 + 2, none⟩ = some (.string y.cr) ∧ w'.cell? ⟨b', o' + Z * 6 + 3, none⟩ = some (.int .i64 y.c) ∧ w'.cell? ⟨b', o' + Z * 6 + 4, none⟩ = some (.int .i64 y.d) ∧ w'.cell? ⟨b', o' + Z * 6 + 5, none⟩ = some (.int .i64 y.b)) := fun w' g' => ⟨c_cell (range_grew HBXd.out g'), n_cells0 (range_grew HRXd.out g'), n_cells (range_grew hry g')⟩
        clear HRXd HBXd hry hy
        cases hxy : eqEnt x y with
        | false =>
          have HN : Hid (¬ before[Z]? = some x) := by unfold Hid; rw [HY.out]; intro h; injection h with h; exact (of_decide_eq_false hxy) h.symm
          refine wp_region_seq (by kernel_rfl) Grew.refl (fun _ _ _ => Grew.trans) (fun _ _ _ _ _ h => h) (by kernel_rfl) ?_
          repeat (first
            | (refine TakeAll.pure (v := ?_) (by rfl) ?_ ?_; rotate_left; (intro w' g'; obtain ⟨hC0, ⟨hC1_0, hC1_1, hC1_2, hC1_3, hC1_4, hC1_5⟩, hC2_0, hC2_1, hC2_2, hC2_3, hC2_4, hC2_5⟩ := hC w' g'; go_simp; first | done | with_reducible rfl); (simp only [Act.put, List.setIfInBounds_toArray, List.set_cons_zero, List.set_cons_succ]))
            | (refine TakeAll.skip (by rfl) ?_; (simp only [Act.put, List.setIfInBounds_toArray, List.set_cons_zero, List.set_cons_succ])))
          refine TakeAll.pure (v := .bool false) (by rfl) (fun w' _ => exec_eql50 (a := x) (b := y) hxy rfl rfl rfl w') ?_
          simp only [Act.put, List.setIfInBounds_toArray, List.set_cons_zero, List.set_cons_succ]
          repeat (first
            | (refine TakeAll.pure (v := ?_) (by rfl) ?_ ?_; rotate_left; (intro w' g'; obtain ⟨hC0, ⟨hC1_0, hC1_1, hC1_2, hC1_3, hC1_4, hC1_5⟩, hC2_0, hC2_1, hC2_2, hC2_3, hC2_4, hC2_5⟩ := hC w' g'; go_simp; first | done | with_reducible rfl); (simp only [Act.put, List.setIfInBounds_toArray, List.set_cons_zero, List.set_cons_succ]))
            | (refine TakeAll.skip (by rfl) ?_; (simp only [Act.put, List.setIfInBounds_toArray, List.set_cons_zero, List.set_cons_succ])))
          refine TakeAll.nil ?_
          intro w5' g5
          have gE := gA.drew.trans g5
          clear hC
          go_wp2_with fail
          go_roundw
          case rel => exact ⟨k + 1, by omega, by go_num, by rw [HZ2.out, if_neg HN.out], gE⟩
          case measure => simp [intOf]; omega
        | true =>
          have HN : Hid (before[Z]? = some x) := by unfold Hid; rw [HY.out, of_decide_eq_true hxy]
          refine wp_region_seq (by kernel_rfl) Grew.refl (fun _ _ _ => Grew.trans) (fun _ _ _ _ _ h => h) (by kernel_rfl) ?_
          repeat (first
            | (refine TakeAll.pure (v := ?_) (by rfl) ?_ ?_; rotate_left; (intro w' g'; obtain ⟨hC0, ⟨hC1_0, hC1_1, hC1_2, hC1_3, hC1_4, hC1_5⟩, hC2_0, hC2_1, hC2_2, hC2_3, hC2_4, hC2_5⟩ := hC w' g'; go_simp; first | done | with_reducible rfl); (simp only [Act.put, List.setIfInBounds_toArray, List.set_cons_zero, List.set_cons_succ]))
            | (refine TakeAll.skip (by rfl) ?_; (simp only [Act.put, List.setIfInBounds_toArray, List.set_cons_zero, List.set_cons_succ])))
          refine TakeAll.pure (v := .bool true) (by rfl) (fun w' _ => exec_eql50 (a := x) (b := y) hxy rfl rfl rfl w') ?_
          simp only [Act.put, List.setIfInBounds_toArray, List.set_cons_zero, List.set_cons_succ]
          repeat (first
            | (refine TakeAll.pure (v := ?_) (by rfl) ?_ ?_; rotate_left; (intro w' g'; obtain ⟨hC0, ⟨hC1_0, hC1_1, hC1_2, hC1_3, hC1_4, hC1_5⟩, hC2_0, hC2_1, hC2_2, hC2_3, hC2_4, hC2_5⟩ := hC w' g'; go_simp; first | done | with_reducible rfl); (simp only [Act.put, List.setIfInBounds_toArray, List.set_cons_zero, List.set_cons_succ]))
            | (refine TakeAll.skip (by rfl) ?_; (simp only [Act.put, List.setIfInBounds_toArray, List.set_cons_zero, List.set_cons_succ])))
          refine TakeAll.nil ?_
          intro w5' g5
          have gE := gA.drew.trans g5
          clear hC
          go_wp2_with fail
          go_roundw
          case rel => exact ⟨k + 1, by omega, by go_num, by rw [HZ2.out, if_pos HN.out]; go_num, gE⟩
          case measure => simp [intOf]; omega
      · have qz : decide ((Z : Int) < (n : Int)) = false := decide_eq_false (by omega)
        have HN : Hid (¬ before[Z]? = some x) := by
          unfold Hid
          rw [List.getElem?_eq_none (by rw [LA.out]; omega)]
          intro h; cases h
        have hC : ∀ w', Grew wa.drew w' → (w'.cell? ⟨bb, 0, none⟩ = some (.slice A n c)) := fun w' g' => c_cell (range_grew HBXd.out g')
        refine wp_region_seq (by kernel_rfl) Grew.refl (fun _ _ _ => Grew.trans) (fun _ _ _ _ _ h => h) (by kernel_rfl) ?_
        repeat (first
          | (refine TakeAll.pure (v := ?_) (by rfl) ?_ ?_; rotate_left; (intro w' g'; have hC0 := hC w' g'; go_simp; first | done | with_reducible rfl); (simp only [Act.put, List.setIfInBounds_toArray, List.set_cons_zero, List.set_cons_succ]))
          | (refine TakeAll.skip (by rfl) ?_; (simp only [Act.put, List.setIfInBounds_toArray, List.set_cons_zero, List.set_cons_succ])))
        refine TakeAll.nil ?_
        intro w5' g5
        have gE := gA.drew.trans g5
        clear hC
        go_wp2_with fail
        go_roundw
        case rel => exact ⟨k + 1, by omega, by go_num, by rw [HZ2.out, if_neg HN.out], gE⟩
        case measure => simp [intOf]; omega
    · obtain rfl : n2 = k := by omega
      have HV : Hid (((Z : Int) == (n : Int)) = decide (goK before after 0 = before.length)) := by
        unfold Hid
        rw [LA.out, ← HZ.out, ← LC.out, List.take_length, int_beq, Bool.eq_iff_iff, decide_eq_true_iff, decide_eq_true_iff]; omega
      have c0 := c_cell (range_grew HBX.out hg)
      go_wp2_with fail
      go_ret
      exact ⟨ret_bool HV.out, hg⟩
set_option maxRecDepth 100000 in
set_option maxHeartbeats 16000000 in
theorem app_law (A0 : Option Addr) (n0 c0 : Nat) (B0 : Option Addr) (m0 e0 : Nat) (d : Desk) (p : Pay) (a : Ans) (w : World) (h : DeskIs w A0 n0 c0 B0 m0 e0 d) (hp : p.acc.size ≤ maxLen) : Calls Try.prog 7 #[.agg #[.slice A0 n0 c0, .slice B0 m0 e0], pv p, av a] w fun e w' => e = .returned (.bool true) ∧ Grew w w' := by
  have HD := Lib.hid h
  clear h
  show Calls Try.prog 7 #[.agg #[.slice A0 n0 c0, .slice B0 m0 e0], .agg #[.int .i64 p.id, .string p.acc, .int .i64 p.c, .int .i64 p.d], .agg #[.int .i64 a.q, .int .i64 a.id, .int .i64 a.k, .int .i64 a.c, .int .i64 a.d]] w _
  obtain ⟨b1, hb0⟩ : ∃ b, b = w.heap.size := ⟨_, rfl⟩
  obtain ⟨w1, hw0⟩ : ∃ x, x = w.alloc (.cells #[.slice A0 n0 c0, .slice B0 m0 e0] 25) := ⟨_, rfl⟩
  have g0 : Grew w w1 := by rw [hw0]; exact (Grew.refl w).alloc _
  have sz0 : w1.heap.size = w.heap.size + 1 := by rw [hw0]; simp
  obtain ⟨b2, hb1⟩ : ∃ b, b = w.heap.size + 1 := ⟨_, rfl⟩
  obtain ⟨w2, hw1⟩ : ∃ x, x = w1.alloc (.cells #[.int .i64 p.id, .string p.acc, .int .i64 p.c, .int .i64 p.d] 27) := ⟨_, rfl⟩
  have g1 : Grew w1 w2 := by rw [hw1]; exact (Grew.refl w1).alloc _
  have sz1 : w2.heap.size = w.heap.size + 1 + 1 := by rw [hw1]; simp [sz0]
  obtain ⟨b3, hb2⟩ : ∃ b, b = w.heap.size + 1 + 1 := ⟨_, rfl⟩
  obtain ⟨w3, hw2⟩ : ∃ x, x = w2.alloc (.cells #[.int .i64 a.q, .int .i64 a.id, .int .i64 a.k, .int .i64 a.c, .int .i64 a.d] 29) := ⟨_, rfl⟩
  have g2 : Grew w2 w3 := by rw [hw2]; exact (Grew.refl w2).alloc _
  have sz2 : w3.heap.size = w.heap.size + 1 + 1 + 1 := by rw [hw2]; simp [sz1]
  have HRd : Hid (w3.rangeAt b1 0 [.slice A0 n0 c0, .slice B0 m0 e0]) := by
    unfold Hid
    rw [hb0]
    exact range_grew (by rw [hw0]; exact range_new w _ 25) (g1.trans g2)
  have HRp : Hid (w3.rangeAt b2 0 [.int .i64 p.id, .string p.acc, .int .i64 p.c, .int .i64 p.d]) := by
    unfold Hid
    rw [hb1, ← sz0]
    exact range_grew (by rw [hw1]; exact range_new w1 _ 27) g2
  have HRa : Hid (w3.rangeAt b3 0 [.int .i64 a.q, .int .i64 a.id, .int .i64 a.k, .int .i64 a.c, .int .i64 a.d]) := by
    unfold Hid
    rw [hb2, ← sz1]
    exact range_grew (by rw [hw2]; exact range_new w2 _ 29) (Grew.refl _)
  have gg : Grew w w3 := ((g0.trans g1).trans g2)
  clear sz0 g0 sz1 g1 sz2 g2
  go_enter Try.func7, Try.ntmps7
  go_upto_region 1 with (fail)
  rw [← hw0]
  rw [← hw1]
  rw [← hw2]
  rw [← hb2, ← hb1, ← hb0]
  clear hw0 hb0 hw1 hb1 hw2 hb2
  replace HD := Lib.hid (HD.out.grew gg)
  go_wp2_with fail
  refine (head_true _).mono ?_
  rintro r w4 ⟨rfl, g⟩
  replace HRd := Lib.hid (range_grew HRd.out g)
  replace HRp := Lib.hid (range_grew HRp.out g)
  replace HRa := Lib.hid (range_grew HRa.out g)
  replace HD := Lib.hid (HD.out.grew g)
  replace gg := gg.trans g
  clear g
  obtain ⟨tv, htv⟩ : ∃ t, smallB d = t := ⟨_, rfl⟩
  obtain ⟨z0_0, z0_1⟩ := d_cells HRd.out
  go_wp2_with fail
  clear z0_0 z0_1
  refine (small_val HD.out htv).mono ?_
  rintro r w5 ⟨rfl, g⟩
  replace HRd := Lib.hid (range_grew HRd.out g)
  replace HRp := Lib.hid (range_grew HRp.out g)
  replace HRa := Lib.hid (range_grew HRa.out g)
  replace HD := Lib.hid (HD.out.grew g)
  replace gg := gg.trans g
  clear g
  cases tv with
  | false =>
    go_wp2_with fail
    go_ret
    exact ⟨rfl, gg⟩
  | true =>
    obtain ⟨tv, hvv⟩ : ∃ t, validB d = t := ⟨_, rfl⟩
    obtain ⟨z1_0, z1_1⟩ := d_cells HRd.out
    go_wp2_with fail
    clear z1_0 z1_1
    refine (rvalid_val HD.out hvv).mono ?_
    rintro r w6 ⟨rfl, g⟩
    replace HRd := Lib.hid (range_grew HRd.out g)
    replace HRp := Lib.hid (range_grew HRp.out g)
    replace HRa := Lib.hid (range_grew HRa.out g)
    replace HD := Lib.hid (HD.out.grew g)
    replace gg := gg.trans g
    clear g
    cases tv with
    | false =>
      go_wp2_with fail
      go_ret
      exact ⟨rfl, gg⟩
    | true =>
      have HV := Lib.hid hvv
      have hel : (entL d).length ≤ 90 := by have h1 := ent_len_le hvv; have h2 := small_parts htv; omega
      clear hvv htv
      obtain ⟨l1, hl1⟩ : ∃ l, entL d = l := ⟨_, rfl⟩
      obtain ⟨z2_0, z2_1⟩ := d_cells HRd.out
      go_wp2_with fail
      clear z2_0 z2_1
      refine (entries_val HD.out hl1).mono ?_
      rintro r w7 ⟨A1, n1, c1, rfl, hk1, g⟩
      replace HRd := Lib.hid (range_grew HRd.out g)
      replace HRp := Lib.hid (range_grew HRp.out g)
      replace HRa := Lib.hid (range_grew HRa.out g)
      replace HD := Lib.hid (HD.out.grew g)
      replace gg := gg.trans g
      clear g
      obtain ⟨w8, hw⟩ : ∃ y, y = w7.alloc (.cells #[.slice A1 n1 c1] 38) := ⟨_, rfl⟩
      have g : Grew w7 w8 := by rw [hw]; exact (Grew.refl _).alloc _
      obtain ⟨b8, hb⟩ : ∃ z, z = w7.heap.size := ⟨_, rfl⟩
      have HRl : Hid (w8.rangeAt b8 0 [.slice A1 n1 c1]) := by unfold Hid; rw [hw, hb]; exact range_new w7 _ 38
      have HL1 := Lib.hid (hk1.grew g)
      have hln1 : l1.length = n1 := hk1.1.1
      have hn90 : n1 ≤ 90 := by rw [← hln1, ← hl1]; exact hel
      have HLN := Lib.hid hln1
      clear hk1 hel hln1
      replace HRd := Lib.hid (range_grew HRd.out g)
      replace HRp := Lib.hid (range_grew HRp.out g)
      replace HRa := Lib.hid (range_grew HRa.out g)
      replace HD := Lib.hid (HD.out.grew g)
      replace gg := gg.trans g
      clear g
      go_upto_region 5 with (fail)
      rw [← hw, ← hb]
      clear hw hb
      go_upto_region 6 with (fail)
      obtain ⟨z1, hz1⟩ : ∃ z, sendE d p = z := ⟨_, rfl⟩
      obtain ⟨d1, hd1⟩ : ∃ z, sendD d p = z := ⟨_, rfl⟩
      obtain ⟨z3_0, z3_1⟩ := d_cells HRd.out
      obtain ⟨z4_0, z4_1, z4_2, z4_3⟩ := p_cells0 HRp.out
      go_wp2_with fail
      clear z3_0 z3_1 z4_0 z4_1 z4_2 z4_3
      refine (send_val HD.out hp hz1 hd1).mono ?_
      rintro r w9 ⟨A3, n3, c3, B3, m3, e3, rfl, hk3, g⟩
      replace HRd := Lib.hid (range_grew HRd.out g)
      replace HRp := Lib.hid (range_grew HRp.out g)
      replace HRa := Lib.hid (range_grew HRa.out g)
      replace HRl := Lib.hid (range_grew HRl.out g)
      replace HD := Lib.hid (HD.out.grew g)
      replace HL1 := Lib.hid (HL1.out.grew g)
      replace gg := gg.trans g
      clear g
      obtain ⟨w10, hw⟩ : ∃ y, y = w9.alloc (.cells #[.slice A3 n3 c3, .slice B3 m3 e3] 25) := ⟨_, rfl⟩
      have g : Grew w9 w10 := by rw [hw]; exact (Grew.refl _).alloc _
      obtain ⟨b10, hb⟩ : ∃ z, z = w9.heap.size := ⟨_, rfl⟩
      have HR3 : Hid (w10.rangeAt b10 0 [.slice A3 n3 c3, .slice B3 m3 e3]) := by unfold Hid; rw [hw, hb]; exact range_new w9 _ 25
      have HD3 := Lib.hid (hk3.grew g)
      clear hk3
      replace HRd := Lib.hid (range_grew HRd.out g)
      replace HRp := Lib.hid (range_grew HRp.out g)
      replace HRa := Lib.hid (range_grew HRa.out g)
      replace HRl := Lib.hid (range_grew HRl.out g)
      replace HD := Lib.hid (HD.out.grew g)
      replace HL1 := Lib.hid (HL1.out.grew g)
      replace gg := gg.trans g
      clear g
      go_upto_region 7 with (fail)
      rw [← hw, ← hb]
      clear hw hb
      rcases Decidable.em (z1 = 0) with hz | hz
      · subst hz
        have q : ((0 : Int) == 0) = true := rfl
        obtain ⟨l5, hl5⟩ : ∃ l, entL d1 = l := ⟨_, rfl⟩
        obtain ⟨hgo, hlen⟩ := send_app hz1
        rw [hd1, hl1, hl5] at hgo hlen
        obtain ⟨z5_0, z5_1⟩ := d_cells HR3.out
        go_wp2_with fail
        clear z5_0 z5_1
        refine (entries_val HD3.out hl5).mono ?_
        rintro r w11 ⟨A5, n5, c5, rfl, hk5, g⟩
        replace HRd := Lib.hid (range_grew HRd.out g)
        replace HRp := Lib.hid (range_grew HRp.out g)
        replace HRa := Lib.hid (range_grew HRa.out g)
        replace HRl := Lib.hid (range_grew HRl.out g)
        replace HR3 := Lib.hid (range_grew HR3.out g)
        replace HD := Lib.hid (HD.out.grew g)
        replace HL1 := Lib.hid (HL1.out.grew g)
        replace HD3 := Lib.hid (HD3.out.grew g)
        replace gg := gg.trans g
        clear g
        have hn5 : l5.length = n5 := hk5.1.1
        rw [hn5, HLN.out] at hlen
        have HGD := Lib.hid (decide_eq_true hgo)
        subst hlen
        have qn : (((n1 + 1 : Nat) : Int) != (n1 : Int) + 1) = false := by simp
        clear hgo hn5
        have cl0 := c_cell HRl.out
        go_wp2_with fail
        clear cl0
        refine (within_any _ _ _ _ _ _ l1 l5 b8 _ hk5 HL1.out HRl.out (by omega) (by omega)).mono ?_
        rw [HGD.out]
        rintro r w11x ⟨rfl, g⟩
        replace HRd := Lib.hid (range_grew HRd.out g)
        replace HRp := Lib.hid (range_grew HRp.out g)
        replace HRa := Lib.hid (range_grew HRa.out g)
        replace HRl := Lib.hid (range_grew HRl.out g)
        replace HR3 := Lib.hid (range_grew HR3.out g)
        replace HD := Lib.hid (HD.out.grew g)
        replace HL1 := Lib.hid (HL1.out.grew g)
        replace HD3 := Lib.hid (HD3.out.grew g)
        replace gg := gg.trans g
        clear g
        clear hk5 HGD
        obtain ⟨z2, hz2⟩ : ∃ z, applyE d a = z := ⟨_, rfl⟩
        obtain ⟨d2, hd2⟩ : ∃ z, applyD d a = z := ⟨_, rfl⟩
        obtain ⟨z6_0, z6_1⟩ := d_cells HRd.out
        obtain ⟨z7_0, z7_1, z7_2, z7_3, z7_4⟩ := a_cells0 HRa.out
        go_wp2_with fail
        clear z6_0 z6_1 z7_0 z7_1 z7_2 z7_3 z7_4
        refine (apply_val HD.out hz2 hd2).mono ?_
        rintro r w12 ⟨A4, n4, c4, B4, m4, e4, rfl, hk4, g⟩
        replace HRd := Lib.hid (range_grew HRd.out g)
        replace HRp := Lib.hid (range_grew HRp.out g)
        replace HRa := Lib.hid (range_grew HRa.out g)
        replace HRl := Lib.hid (range_grew HRl.out g)
        replace HR3 := Lib.hid (range_grew HR3.out g)
        replace HD := Lib.hid (HD.out.grew g)
        replace HL1 := Lib.hid (HL1.out.grew g)
        replace HD3 := Lib.hid (HD3.out.grew g)
        replace gg := gg.trans g
        clear g
        obtain ⟨w13, hw⟩ : ∃ y, y = w12.alloc (.cells #[.slice A4 n4 c4, .slice B4 m4 e4] 25) := ⟨_, rfl⟩
        have g : Grew w12 w13 := by rw [hw]; exact (Grew.refl _).alloc _
        obtain ⟨b13, hb⟩ : ∃ z, z = w12.heap.size := ⟨_, rfl⟩
        have HR4 : Hid (w13.rangeAt b13 0 [.slice A4 n4 c4, .slice B4 m4 e4]) := by unfold Hid; rw [hw, hb]; exact range_new w12 _ 25
        have HD4 := Lib.hid (hk4.grew g)
        clear hk4
        replace HRd := Lib.hid (range_grew HRd.out g)
        replace HRp := Lib.hid (range_grew HRp.out g)
        replace HRa := Lib.hid (range_grew HRa.out g)
        replace HRl := Lib.hid (range_grew HRl.out g)
        replace HR3 := Lib.hid (range_grew HR3.out g)
        replace HD := Lib.hid (HD.out.grew g)
        replace HL1 := Lib.hid (HL1.out.grew g)
        replace HD3 := Lib.hid (HD3.out.grew g)
        replace gg := gg.trans g
        clear g
        go_upto_region 12 with (fail)
        rw [← hw, ← hb]
        clear hw hb
        rcases Decidable.em (z2 = 0) with hz | hz
        · subst hz
          have q : ((0 : Int) == 0) = true := rfl
          obtain ⟨l6, hl6⟩ : ∃ l, entL d2 = l := ⟨_, rfl⟩
          obtain ⟨hgo, hlen⟩ := apply_app hz2
          rw [hd2, hl1, hl6] at hgo hlen
          obtain ⟨z8_0, z8_1⟩ := d_cells HR4.out
          go_wp2_with fail
          clear z8_0 z8_1
          refine (entries_val HD4.out hl6).mono ?_
          rintro r w14 ⟨A6, n6, c6, rfl, hk6, g⟩
          replace HRd := Lib.hid (range_grew HRd.out g)
          replace HRp := Lib.hid (range_grew HRp.out g)
          replace HRa := Lib.hid (range_grew HRa.out g)
          replace HRl := Lib.hid (range_grew HRl.out g)
          replace HR3 := Lib.hid (range_grew HR3.out g)
          replace HR4 := Lib.hid (range_grew HR4.out g)
          replace HD := Lib.hid (HD.out.grew g)
          replace HL1 := Lib.hid (HL1.out.grew g)
          replace HD3 := Lib.hid (HD3.out.grew g)
          replace HD4 := Lib.hid (HD4.out.grew g)
          replace gg := gg.trans g
          clear g
          have hn6 : l6.length = n6 := hk6.1.1
          rw [hn6, HLN.out] at hlen
          have HGD := Lib.hid (decide_eq_true hgo)
          have qg : decide ((n6 : Int) > (n1 : Int) + 1) = false := decide_eq_false (by omega)
          have qg' : decide ((n1 : Int) + 1 < (n6 : Int)) = false := decide_eq_false (by omega)
          clear hgo hn6
          have cl0 := c_cell HRl.out
          go_wp2_with fail
          clear cl0
          refine (within_any _ _ _ _ _ _ l1 l6 b8 _ hk6 HL1.out HRl.out (by omega) (by omega)).mono ?_
          rw [HGD.out]
          rintro r w14x ⟨rfl, g⟩
          replace HRd := Lib.hid (range_grew HRd.out g)
          replace HRp := Lib.hid (range_grew HRp.out g)
          replace HRa := Lib.hid (range_grew HRa.out g)
          replace HRl := Lib.hid (range_grew HRl.out g)
          replace HR3 := Lib.hid (range_grew HR3.out g)
          replace HR4 := Lib.hid (range_grew HR4.out g)
          replace HD := Lib.hid (HD.out.grew g)
          replace HL1 := Lib.hid (HL1.out.grew g)
          replace HD3 := Lib.hid (HD3.out.grew g)
          replace HD4 := Lib.hid (HD4.out.grew g)
          replace gg := gg.trans g
          clear g
          clear hk6 HGD
          go_wp2_with fail
          go_ret
          exact ⟨rfl, gg⟩
        · have q : (z2 == (0 : Int)) = false := by simpa using hz
          go_wp2_with fail
          go_ret
          exact ⟨rfl, gg⟩
      · have q : (z1 == (0 : Int)) = false := by simpa using hz
        obtain ⟨z2, hz2⟩ : ∃ z, applyE d a = z := ⟨_, rfl⟩
        obtain ⟨d2, hd2⟩ : ∃ z, applyD d a = z := ⟨_, rfl⟩
        obtain ⟨z5_0, z5_1⟩ := d_cells HRd.out
        obtain ⟨z6_0, z6_1, z6_2, z6_3, z6_4⟩ := a_cells0 HRa.out
        go_wp2_with fail
        clear z5_0 z5_1 z6_0 z6_1 z6_2 z6_3 z6_4
        refine (apply_val HD.out hz2 hd2).mono ?_
        rintro r w12 ⟨A4, n4, c4, B4, m4, e4, rfl, hk4, g⟩
        replace HRd := Lib.hid (range_grew HRd.out g)
        replace HRp := Lib.hid (range_grew HRp.out g)
        replace HRa := Lib.hid (range_grew HRa.out g)
        replace HRl := Lib.hid (range_grew HRl.out g)
        replace HR3 := Lib.hid (range_grew HR3.out g)
        replace HD := Lib.hid (HD.out.grew g)
        replace HL1 := Lib.hid (HL1.out.grew g)
        replace HD3 := Lib.hid (HD3.out.grew g)
        replace gg := gg.trans g
        clear g
        obtain ⟨w13, hw⟩ : ∃ y, y = w12.alloc (.cells #[.slice A4 n4 c4, .slice B4 m4 e4] 25) := ⟨_, rfl⟩
        have g : Grew w12 w13 := by rw [hw]; exact (Grew.refl _).alloc _
        obtain ⟨b13, hb⟩ : ∃ z, z = w12.heap.size := ⟨_, rfl⟩
        have HR4 : Hid (w13.rangeAt b13 0 [.slice A4 n4 c4, .slice B4 m4 e4]) := by unfold Hid; rw [hw, hb]; exact range_new w12 _ 25
        have HD4 := Lib.hid (hk4.grew g)
        clear hk4
        replace HRd := Lib.hid (range_grew HRd.out g)
        replace HRp := Lib.hid (range_grew HRp.out g)
        replace HRa := Lib.hid (range_grew HRa.out g)
        replace HRl := Lib.hid (range_grew HRl.out g)
        replace HR3 := Lib.hid (range_grew HR3.out g)
        replace HD := Lib.hid (HD.out.grew g)
        replace HL1 := Lib.hid (HL1.out.grew g)
        replace HD3 := Lib.hid (HD3.out.grew g)
        replace gg := gg.trans g
        clear g
        go_upto_region 12 with (fail)
        rw [← hw, ← hb]
        clear hw hb
        rcases Decidable.em (z2 = 0) with hz | hz
        · subst hz
          have q : ((0 : Int) == 0) = true := rfl
          obtain ⟨l6, hl6⟩ : ∃ l, entL d2 = l := ⟨_, rfl⟩
          obtain ⟨hgo, hlen⟩ := apply_app hz2
          rw [hd2, hl1, hl6] at hgo hlen
          obtain ⟨z7_0, z7_1⟩ := d_cells HR4.out
          go_wp2_with fail
          clear z7_0 z7_1
          refine (entries_val HD4.out hl6).mono ?_
          rintro r w14 ⟨A6, n6, c6, rfl, hk6, g⟩
          replace HRd := Lib.hid (range_grew HRd.out g)
          replace HRp := Lib.hid (range_grew HRp.out g)
          replace HRa := Lib.hid (range_grew HRa.out g)
          replace HRl := Lib.hid (range_grew HRl.out g)
          replace HR3 := Lib.hid (range_grew HR3.out g)
          replace HR4 := Lib.hid (range_grew HR4.out g)
          replace HD := Lib.hid (HD.out.grew g)
          replace HL1 := Lib.hid (HL1.out.grew g)
          replace HD3 := Lib.hid (HD3.out.grew g)
          replace HD4 := Lib.hid (HD4.out.grew g)
          replace gg := gg.trans g
          clear g
          have hn6 : l6.length = n6 := hk6.1.1
          rw [hn6, HLN.out] at hlen
          have HGD := Lib.hid (decide_eq_true hgo)
          have qg : decide ((n6 : Int) > (n1 : Int) + 1) = false := decide_eq_false (by omega)
          have qg' : decide ((n1 : Int) + 1 < (n6 : Int)) = false := decide_eq_false (by omega)
          clear hgo hn6
          have cl0 := c_cell HRl.out
          go_wp2_with fail
          clear cl0
          refine (within_any _ _ _ _ _ _ l1 l6 b8 _ hk6 HL1.out HRl.out (by omega) (by omega)).mono ?_
          rw [HGD.out]
          rintro r w14x ⟨rfl, g⟩
          replace HRd := Lib.hid (range_grew HRd.out g)
          replace HRp := Lib.hid (range_grew HRp.out g)
          replace HRa := Lib.hid (range_grew HRa.out g)
          replace HRl := Lib.hid (range_grew HRl.out g)
          replace HR3 := Lib.hid (range_grew HR3.out g)
          replace HR4 := Lib.hid (range_grew HR4.out g)
          replace HD := Lib.hid (HD.out.grew g)
          replace HL1 := Lib.hid (HL1.out.grew g)
          replace HD3 := Lib.hid (HD3.out.grew g)
          replace HD4 := Lib.hid (HD4.out.grew g)
          replace gg := gg.trans g
          clear g
          clear hk6 HGD
          go_wp2_with fail
          go_ret
          exact ⟨rfl, gg⟩
        · have q : (z2 == (0 : Int)) = false := by simpa using hz
          go_wp2_with fail
          go_ret
          exact ⟨rfl, gg⟩
end Go.Proofs.Ytaocjobbfcfleaa
