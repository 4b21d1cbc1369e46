/-
  The law's helper others: how many standings of one desk stand in another.
-/
import Derived.Test.YtaocjobbfcfleaaLSm
import Derived.Test.YtaocjobbfcfleaaLawQ
import Derived.Test.YtaocjobbfcfleaaRegL
namespace Go.Proofs.Ytaocjobbfcfleaa
open Go.RowKit Go.Proofs WageMem WageOrd WageRec WageMap WageReg WageSet
theorem eqSta_is (x y : Sta) : eqSta x y = decide (x = y) := rfl
set_option maxRecDepth 100000 in
set_option maxHeartbeats 16000000 in
theorem others_any (A : Option Addr) (n c : Nat) (B : Option Addr) (m e : Nat) (A2 : Option Addr) (n2 c2 : Nat) (B2 : Option Addr) (m2 e2 : Nat) (d d2 : Desk) (id : Int) (w : World) (h : DeskIs w A n c B m e d) (h2 : DeskIs w A2 n2 c2 B2 m2 e2 d2) (hn : n ≤ 40) (hn2 : n2 ≤ 40) :
    Calls Try.prog 23 #[.agg #[.slice A n c, .slice B m e], .agg #[.slice A2 n2 c2, .slice B2 m2 e2], .int .i64 id] w fun e w' => e = .returned (.bool (othersB d d2 id)) ∧ Grew w w' := by
  have LA := Lib.hid h.1.1.1
  have LB := Lib.hid h2.1.1.1
  have HD := Lib.hid h.1.1
  have HE := Lib.hid h2.1.1
  clear h h2
  obtain ⟨b1, hb0⟩ : ∃ b, b = w.heap.size := ⟨_, rfl⟩
  obtain ⟨w1, hw0⟩ : ∃ x, x = w.alloc (.cells #[.slice A n c, .slice B m e] 25) := ⟨_, rfl⟩
  have g0 : Grew w w1 := by rw [hw0]; exact (Grew.refl w).alloc _
  have sz0 : w1.heap.size = w.heap.size + 1 := by rw [hw0]; simp
  obtain ⟨b2, hb1⟩ : ∃ b, b = w.heap.size + 1 := ⟨_, rfl⟩
  obtain ⟨w2, hw1⟩ : ∃ x, x = w1.alloc (.cells #[.slice A2 n2 c2, .slice B2 m2 e2] 25) := ⟨_, rfl⟩
  have g1 : Grew w1 w2 := by rw [hw1]; exact (Grew.refl w1).alloc _
  have sz1 : w2.heap.size = w.heap.size + 1 + 1 := by rw [hw1]; simp [sz0]
  have HRd : Hid (w2.rangeAt b1 0 [.slice A n c, .slice B m e]) := by
    unfold Hid
    rw [hb0]
    exact range_grew (by rw [hw0]; exact range_new w _ 25) g1
  have HRe : Hid (w2.rangeAt b2 0 [.slice A2 n2 c2, .slice B2 m2 e2]) := by
    unfold Hid
    rw [hb1, ← sz0]
    exact range_grew (by rw [hw1]; exact range_new w1 _ 25) (Grew.refl _)
  have gg : Grew w w2 := (g0.trans g1)
  clear sz0 g0 sz1 g1
  go_enter Try.func23, Try.ntmps23
  go_upto_region 1 with (fail)
  rw [← hw0]
  rw [← hw1]
  rw [← hb1, ← hb0]
  clear hw0 hb0 hw1 hb1
  replace HD := Lib.hid (HD.out.grew gg)
  replace HE := Lib.hid (HE.out.grew gg)
  obtain ⟨z0_0, z0_1⟩ := d_cells HRd.out
  go_wp2_with fail
  clear z0_0 z0_1
  go_loopw [7, 18] (fun v i y => ∃ k : Nat, k ≤ n ∧ i = .int .i64 k ∧ v = .int .i64 (sumN id d2.ss (d.ss.take k) : Nat) ∧ Grew w2 y) (fun _ i _ => n - (intOf i).toNat)
  case atStart => exact ⟨0, Nat.zero_le _, rfl, rfl, Grew.refl _⟩
  case round =>
    obtain ⟨k, hk, rfl, rfl, hg⟩ := hrel
    have hsk := sumN_le id d2.ss (d.ss.take k)
    rw [LB.out, List.length_take] at hsk
    have hsk2 : sumN id d2.ss (d.ss.take k) ≤ 1600 := Nat.le_trans hsk (Nat.mul_le_mul (show min k d.ss.length ≤ 40 by omega) hn2)
    clear hsk
    by_cases hlt : k < n
    · obtain ⟨b, o, x, rfl, hx, hr⟩ := (HD.out.grew hg).at_ se_ok hlt
      have HX := Lib.hid hx
      have k0 : (0 : Int) ≤ (k : Int) := by omega
      have k1 : (k : Int) < (n : Int) := by omega
      obtain ⟨c0, c1, c2', c3, c4, c5, c6⟩ := s_cells hr
      obtain ⟨wa, hwa⟩ : ∃ y, y = wr.alloc (.cells #[.int .i64 x.p.id, .string x.p.acc, .int .i64 x.p.c, .int .i64 x.p.d, .int .i64 x.st, .int .i64 x.pd, .int .i64 x.bk] 43) := ⟨_, rfl⟩
      have ga : Grew wr wa := by rw [hwa]; exact (Grew.refl wr).alloc _
      obtain ⟨bx, hbx⟩ : ∃ b, b = wr.heap.size := ⟨_, rfl⟩
      have HRX : Hid (wa.rangeAt bx 0 (se x)) := by unfold Hid; rw [hwa, hbx]; exact range_new wr (se x) 43
      have gA := hg.trans ga
      have HRe2 := Lib.hid (range_grew HRe.out gA)
      have HE2 := Lib.hid (HE.out.grew gA)
      obtain ⟨S, hS⟩ : ∃ S, sumN id d2.ss (d.ss.take k) = S := ⟨_, rfl⟩
      have HSN : Hid (sumN id d2.ss (d.ss.take (k + 1)) = S + hitN id x d2.ss) := by unfold Hid; rw [List.take_add_one, HX.out, Option.toList_some, sumN_snoc, hS]
      rw [hS] at hsk2 ⊢
      clear hS hr hx
      go_upto_region 5 with (fail)
      rw [← hwa, ← hbx]
      clear hwa hbx c0 c1 c2' c3 c4 c5 c6
      obtain ⟨y0, y1⟩ := d_cells HRe2.out
      go_wp2_with fail
      clear y0 y1
      go_loopw [7, 25] (fun v i y => ∃ j : Nat, j ≤ n2 ∧ i = .int .i64 j ∧ v = .int .i64 (S + hitN id x (d2.ss.take j) : Nat) ∧ Grew wa y) (fun _ i _ => n2 - (intOf i).toNat)
      case atStart => exact ⟨0, Nat.zero_le _, rfl, rfl, Grew.refl _⟩
      case round =>
        obtain ⟨j, hj, rfl, rfl, hgj⟩ := hrel
        have hhj := hitN_le id x (d2.ss.take j)
        rw [List.length_take] at hhj
        obtain ⟨Z, hZ⟩ : ∃ Z, hitN id x (d2.ss.take j) = Z := ⟨_, rfl⟩
        have HZ := Lib.hid hZ
        rw [hZ] at hhj ⊢
        have hz2 : Z ≤ 40 := by omega
        clear hhj hZ
        by_cases hlj : j < n2
        · obtain ⟨b', o', y, rfl, hy, hry⟩ := (HE2.out.grew hgj).at_ se_ok hlj
          have HY := Lib.hid hy
          have i0 : (0 : Int) ≤ (j : Int) := by omega
          have i1 : (j : Int) < (n2 : Int) := by omega
          obtain ⟨c0, c1, c2', c3, c4, c5, c6⟩ := s_cells hry
          obtain ⟨wb, hwb⟩ : ∃ z, z = wr.alloc (.cells #[.int .i64 y.p.id, .string y.p.acc, .int .i64 y.p.c, .int .i64 y.p.d, .int .i64 y.st, .int .i64 y.pd, .int .i64 y.bk] 43) := ⟨_, rfl⟩
          have gb : Grew wr wb := by rw [hwb]; exact (Grew.refl wr).alloc _
          obtain ⟨by_, hby⟩ : ∃ b, b = wr.heap.size := ⟨_, rfl⟩
          have HRY : Hid (wb.rangeAt by_ 0 (se y)) := by unfold Hid; rw [hwb, hby]; exact range_new wr (se y) 43
          have HRX2 := Lib.hid (range_grew HRX.out (hgj.trans gb))
          have gB := hgj.trans gb
          have HSZ : Hid (hitN id x (d2.ss.take (j + 1)) = Z + (if x = y ∧ x.p.id ≠ id then 1 else 0)) := by unfold Hid; rw [List.take_add_one, HY.out, Option.toList_some, hitN_snoc, HZ.out]
          clear hy hry
          go_upto_region 8 with (fail)
          rw [← hwb, ← hby]
          clear hwb hby c0 c1 c2' c3 c4 c5 c6
          have HC : ∀ w', Grew wb w' → (w'.cell? ⟨bx, 0, none⟩ = some (.int .i64 x.p.id) ∧ w'.cell? ⟨bx, 1, none⟩ = some (.string x.p.acc) ∧ w'.cell? ⟨bx, 2, none⟩ = some (.int .i64 x.p.c) ∧ w'.cell? ⟨bx, 3, none⟩ = some (.int .i64 x.p.d) ∧ w'.cell? ⟨bx, 4, none⟩ = some (.int .i64 x.st) ∧ w'.cell? ⟨bx, 5, none⟩ = some (.int .i64 x.pd) ∧ w'.cell? ⟨bx, 6, none⟩ = some (.int .i64 x.bk)) ∧ (w'.cell? ⟨by_, 0, none⟩ = some (.int .i64 y.p.id) ∧ w'.cell? ⟨by_, 1, none⟩ = some (.string y.p.acc) ∧ w'.cell? ⟨by_, 2, none⟩ = some (.int .i64 y.p.c) ∧ w'.cell? ⟨by_, 3, none⟩ = some (.int .i64 y.p.d) ∧ w'.cell? ⟨by_, 4, none⟩ = some (.int .i64 y.st) ∧ w'.cell? ⟨by_, 5, none⟩ = some (.int .i64 y.pd) ∧ w'.cell? ⟨by_, 6, none⟩ = some (.int .i64 y.bk)) := fun w' g' => ⟨s_cells0 (range_grew HRX2.out g'), s_cells0 (range_grew HRY.out g')⟩
          cases hxy : eqSta x y with
          | false =>
            have HNE : Hid ((if x = y ∧ x.p.id ≠ id then 1 else 0) = 0) := by unfold Hid; rw [if_neg]; exact fun h => (of_decide_eq_false hxy) h.1
            refine wp_region_plain Grew.refl (fun _ _ _ => Grew.trans) ?_
            repeat (first
              | (refine TakeAll.pure (v := ?_) (by rfl) ?_ ?_; rotate_left; (intro w' g'; obtain ⟨⟨q0, q1, q2, q3, q4, q5, q6⟩, y0, y1, y2, y3, y4, y5, y6⟩ := HC w' g'; go_simp; first | done | with_reducible rfl); (simp only [Act.put, List.setIfInBounds_toArray, List.set_cons_zero, List.set_cons_succ]))
              | (refine TakeAll.skip (by rfl) ?_; (simp only [Act.put, List.setIfInBounds_toArray, List.set_cons_zero, List.set_cons_succ])))
            refine TakeAll.pure (v := .bool false) (by rfl) (fun w' _ => exec_eql43 (a := x) (b := y) hxy rfl rfl rfl w') ?_
            simp only [Act.put, List.setIfInBounds_toArray, List.set_cons_zero, List.set_cons_succ]
            repeat (first
              | (refine TakeAll.pure (v := ?_) (by rfl) ?_ ?_; rotate_left; (intro w' g'; obtain ⟨⟨q0, q1, q2, q3, q4, q5, q6⟩, y0, y1, y2, y3, y4, y5, y6⟩ := HC w' g'; go_simp; first | done | with_reducible rfl); (simp only [Act.put, List.setIfInBounds_toArray, List.set_cons_zero, List.set_cons_succ]))
              | (refine TakeAll.skip (by rfl) ?_; (simp only [Act.put, List.setIfInBounds_toArray, List.set_cons_zero, List.set_cons_succ])))
            refine TakeAll.nil ?_
            intro w5 g5
            have gE := gB.trans g5
            go_wp2_with fail
            go_roundw
            case rel => exact ⟨j + 1, by omega, by go_num, by rw [HSZ.out, HNE.out]; rfl, gE⟩
            case measure => simp [intOf]; omega
          | true =>
            have HEQ := Lib.hid (of_decide_eq_true hxy)
            by_cases hid : x.p.id = id
            · have q : (x.p.id != id) = false := by simpa using hid
              have HNE : Hid ((if x = y ∧ x.p.id ≠ id then 1 else 0) = 0) := by unfold Hid; rw [if_neg]; exact fun h => h.2 hid
              clear hid
              refine wp_region_plain Grew.refl (fun _ _ _ => Grew.trans) ?_
              repeat (first
                | (refine TakeAll.pure (v := ?_) (by rfl) ?_ ?_; rotate_left; (intro w' g'; obtain ⟨⟨q0, q1, q2, q3, q4, q5, q6⟩, y0, y1, y2, y3, y4, y5, y6⟩ := HC w' g'; go_simp; first | done | with_reducible rfl); (simp only [Act.put, List.setIfInBounds_toArray, List.set_cons_zero, List.set_cons_succ]))
                | (refine TakeAll.skip (by rfl) ?_; (simp only [Act.put, List.setIfInBounds_toArray, List.set_cons_zero, List.set_cons_succ])))
              refine TakeAll.pure (v := .bool true) (by rfl) (fun w' _ => exec_eql43 (a := x) (b := y) hxy rfl rfl rfl w') ?_
              simp only [Act.put, List.setIfInBounds_toArray, List.set_cons_zero, List.set_cons_succ]
              repeat (first
                | (refine TakeAll.pure (v := ?_) (by rfl) ?_ ?_; rotate_left; (intro w' g'; obtain ⟨⟨q0, q1, q2, q3, q4, q5, q6⟩, y0, y1, y2, y3, y4, y5, y6⟩ := HC w' g'; go_simp; first | done | with_reducible rfl); (simp only [Act.put, List.setIfInBounds_toArray, List.set_cons_zero, List.set_cons_succ]))
                | (refine TakeAll.skip (by rfl) ?_; (simp only [Act.put, List.setIfInBounds_toArray, List.set_cons_zero, List.set_cons_succ])))
              refine TakeAll.nil ?_
              intro w5 g5
              have gE := gB.trans g5
              go_wp2_with fail
              go_roundw
              case rel => exact ⟨j + 1, by omega, by go_num, by rw [HSZ.out, HNE.out]; rfl, gE⟩
              case measure => simp [intOf]; omega
            · have q : (x.p.id != id) = true := by simpa using hid
              have HNE : Hid ((if x = y ∧ x.p.id ≠ id then 1 else 0) = 1) := by unfold Hid; rw [if_pos]; exact ⟨HEQ.out, hid⟩
              clear hid
              refine wp_region_plain Grew.refl (fun _ _ _ => Grew.trans) ?_
              repeat (first
                | (refine TakeAll.pure (v := ?_) (by rfl) ?_ ?_; rotate_left; (intro w' g'; obtain ⟨⟨q0, q1, q2, q3, q4, q5, q6⟩, y0, y1, y2, y3, y4, y5, y6⟩ := HC w' g'; go_simp; first | done | with_reducible rfl); (simp only [Act.put, List.setIfInBounds_toArray, List.set_cons_zero, List.set_cons_succ]))
                | (refine TakeAll.skip (by rfl) ?_; (simp only [Act.put, List.setIfInBounds_toArray, List.set_cons_zero, List.set_cons_succ])))
              refine TakeAll.pure (v := .bool true) (by rfl) (fun w' _ => exec_eql43 (a := x) (b := y) hxy rfl rfl rfl w') ?_
              simp only [Act.put, List.setIfInBounds_toArray, List.set_cons_zero, List.set_cons_succ]
              repeat (first
                | (refine TakeAll.pure (v := ?_) (by rfl) ?_ ?_; rotate_left; (intro w' g'; obtain ⟨⟨q0, q1, q2, q3, q4, q5, q6⟩, y0, y1, y2, y3, y4, y5, y6⟩ := HC w' g'; go_simp; first | done | with_reducible rfl); (simp only [Act.put, List.setIfInBounds_toArray, List.set_cons_zero, List.set_cons_succ]))
                | (refine TakeAll.skip (by rfl) ?_; (simp only [Act.put, List.setIfInBounds_toArray, List.set_cons_zero, List.set_cons_succ])))
              refine TakeAll.nil ?_
              intro w5 g5
              have gE := gB.trans g5
              go_wp2_with fail
              go_roundw
              case rel => exact ⟨j + 1, by omega, by go_num, by rw [HSZ.out, HNE.out, show S + (Z + 1) = S + Z + 1 by omega]; go_num, gE⟩
              case measure => simp [intOf]; omega
        · obtain rfl : n2 = j := by omega
          have gE := hg.trans (ga.trans hgj)
          have HFIN : Hid (sumN id d2.ss (d.ss.take (k + 1)) = S + Z) := by
            unfold Hid; rw [HSN.out, ← HZ.out, ← LB.out, List.take_length]
          go_wp2_with fail
          go_roundw
          case rel => exact ⟨k + 1, by omega, by go_num, by rw [HFIN.out], gE⟩
          case measure => simp [intOf]; omega
    · obtain rfl : n = k := by omega
      have HTOT : Hid (sumN id d2.ss d.ss = sumN id d2.ss (d.ss.take n)) := by unfold Hid; rw [← LA.out, List.take_length]
      obtain ⟨S, hS⟩ : ∃ S, sumN id d2.ss (d.ss.take n) = S := ⟨_, rfl⟩
      rw [hS] at HTOT hsk2 ⊢
      clear hS
      have HRd3 := Lib.hid (range_grew HRd.out hg)
      have HD3 := Lib.hid (HD.out.grew hg)
      have g3 := Lib.hid (gg.trans hg)
      obtain ⟨wt, hwt⟩ : ∃ y, y = wr := ⟨_, rfl⟩
      rw [← hwt] at HRd3 HD3 g3 ⊢
      clear hwt hg HRd HRe HD HE gg
      obtain ⟨y0, y1⟩ := d_cells HRd3.out
      go_wp2_with fail
      clear y0 y1
      go_loopw [12, 46] (fun v i y => ∃ k : Nat, k ≤ n ∧ i = .int .i64 k ∧ v = .int .i64 (wantN id (d.ss.take k) : Nat) ∧ Grew wt y) (fun _ i _ => n - (intOf i).toNat)
      case atStart => exact ⟨0, Nat.zero_le _, rfl, rfl, Grew.refl _⟩
      case round =>
        obtain ⟨k, hk, rfl, rfl, hg⟩ := hrel
        have hsk := wantN_le id (d.ss.take k)
        rw [List.length_take] at hsk
        obtain ⟨Z, hZ⟩ : ∃ Z, wantN id (d.ss.take k) = Z := ⟨_, rfl⟩
        have HZ := Lib.hid hZ
        rw [hZ] at hsk ⊢
        have hz2 : Z ≤ 40 := by omega
        clear hsk hZ
        by_cases hlt : k < n
        · obtain ⟨b, o, x, rfl, hx, hr⟩ := (HD3.out.grew hg).at_ se_ok hlt
          have HX := Lib.hid hx
          have k0 : (0 : Int) ≤ (k : Int) := by omega
          have k1 : (k : Int) < (n : Int) := by omega
          obtain ⟨c0, c1, c2', c3, c4, c5, c6⟩ := s_cells hr
          obtain ⟨wa, hwa⟩ : ∃ y, y = wr.alloc (.cells #[.int .i64 x.p.id, .string x.p.acc, .int .i64 x.p.c, .int .i64 x.p.d, .int .i64 x.st, .int .i64 x.pd, .int .i64 x.bk] 43) := ⟨_, rfl⟩
          have ga : Grew wr wa := by rw [hwa]; exact (Grew.refl wr).alloc _
          obtain ⟨bx, hbx⟩ : ∃ b, b = wr.heap.size := ⟨_, rfl⟩
          have HRX : Hid (wa.rangeAt bx 0 (se x)) := by unfold Hid; rw [hwa, hbx]; exact range_new wr (se x) 43
          have gA := hg.trans ga
          have HSZ : Hid (wantN id (d.ss.take (k + 1)) = Z + (if x.p.id ≠ id then 1 else 0)) := by unfold Hid; rw [List.take_add_one, HX.out, Option.toList_some, wantN_snoc, HZ.out]
          clear hr hx
          go_upto_region 16 with (fail)
          rw [← hwa, ← hbx]
          clear hwa hbx c0 c1 c2' c3 c4 c5 c6 ga
          obtain ⟨c0, c1, c2', c3, c4, c5, c6⟩ := s_cells0 HRX.out
          by_cases hid : x.p.id = id
          · have q : (x.p.id != id) = false := by simpa using hid
            have HNE : Hid ((if x.p.id ≠ id then 1 else 0) = 0) := by unfold Hid; rw [if_neg]; exact fun h => h hid
            clear hid
            go_wp2_with fail
            go_roundw
            case rel => exact ⟨k + 1, by omega, by go_num, by rw [HSZ.out, HNE.out]; rfl, gA⟩
            case measure => simp [intOf]; omega
          · have q : (x.p.id != id) = true := by simpa using hid
            have HNE : Hid ((if x.p.id ≠ id then 1 else 0) = 1) := by unfold Hid; rw [if_pos]; exact hid
            clear hid
            go_wp2_with fail
            go_roundw
            case rel => exact ⟨k + 1, by omega, by go_num, by rw [HSZ.out, HNE.out]; go_num, gA⟩
            case measure => simp [intOf]; omega
        · obtain rfl : n = k := by omega
          have gE := g3.out.trans hg
          have HTW : Hid (wantN id d.ss = Z) := by unfold Hid; rw [← HZ.out, ← LA.out, List.take_length]
          have HV : Hid (((S : Int) == (Z : Int)) = othersB d d2 id) := by
            unfold Hid othersB; rw [HTOT.out, HTW.out, int_beq, Bool.eq_iff_iff, decide_eq_true_iff, decide_eq_true_iff]; omega
          go_wp2_with fail
          go_ret
          exact ⟨ret_bool HV.out, gE⟩
end Go.Proofs.Ytaocjobbfcfleaa
