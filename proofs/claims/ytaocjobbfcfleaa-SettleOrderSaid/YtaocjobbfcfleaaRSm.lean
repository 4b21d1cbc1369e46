/-
  The reference's SameEntries, Spent and Copy.
-/
import Derived.Test.YtaocjobbfcfleaaLSm
import Derived.Test.YtaocjobbfcfleaaLawR
namespace Go.Proofs.Ytaocjobbfcfleaa
open Go.RowKit Go.Proofs WageMem WageOrd WageRec WageMap WageReg WageSet
set_option maxRecDepth 100000 in
set_option maxHeartbeats 16000000 in
theorem sameE_any (A : Option Addr) (n c : Nat) (A2 : Option Addr) (n2 c2 : Nat) (l k : List Ent) (w : World) (h : Ents w A n c l) (h2 : Ents w A2 n2 c2 k) : Calls Try.prog 18 #[.slice A n c, .slice A2 n2 c2] w fun r w' => r = .returned (.bool (decide (l = k))) ∧ Grew w w' := by
  have HA := Lib.hid h.1
  have HB := Lib.hid h2.1
  have LA := Lib.hid h.1.1
  have LB := Lib.hid h2.1.1
  have u1 := h.1.le
  have u2 := h2.1.le
  clear h h2
  by_cases hn : n = n2
  rotate_left
  · have q : ((n : Int) != (n2 : Int)) = true := by simp; omega
    have HV : Hid (decide (l = k) = false) := decide_eq_false (fun e => hn (by rw [← LA.out, ← LB.out, e]))
    clear hn
    go_enter Try.func18, Try.ntmps18
    go_wp2_with fail
    go_ret
    exact ⟨ret_bool HV.out.symm, Grew.refl _⟩
  subst hn
  have q : ((n : Int) != (n : Int)) = false := by simp
  go_enter Try.func18, Try.ntmps18
  go_wp2_with fail
  go_loopw [5] (fun i y => ∃ j : Nat, j ≤ n ∧ i = .int .i64 j ∧ Hid (l.take j = k.take j) ∧ Grew w y) (fun i _ => n - (intOf i).toNat)
  case atStart => exact ⟨0, Nat.zero_le _, rfl, rfl, Grew.refl _⟩
  case round =>
    obtain ⟨j, hj, rfl, HE, hg⟩ := hrel
    by_cases hlt : j < n
    · obtain ⟨b, o, x, hAx, hx, hr⟩ := (HA.out.grew hg.drew).at_ ne_ok hlt
      obtain ⟨b', o', y, hAy, hy, hry⟩ := (HB.out.grew hg.drew).at_ ne_ok hlt
      have HX := Lib.hid hx
      have HY := Lib.hid hy
      have k0 : (0 : Int) ≤ (j : Int) := by omega
      have k1 : (j : Int) < (n : Int) := by omega
      subst hAx hAy
      have hC : ∀ w', Grew wr.drew w' → (w'.cell? ⟨b, o + j * 6, none⟩ = some (.int .i64 x.id) ∧ w'.cell? ⟨b, o + j * 6 + 1, none⟩ = some (.string x.de) ∧ w'.cell? ⟨b, o + j * 6 + 2, none⟩ = some (.string x.cr) ∧ w'.cell? ⟨b, o + j * 6 + 3, none⟩ = some (.int .i64 x.c) ∧ w'.cell? ⟨b, o + j * 6 + 4, none⟩ = some (.int .i64 x.d) ∧ w'.cell? ⟨b, o + j * 6 + 5, none⟩ = some (.int .i64 x.b)) ∧ (w'.cell? ⟨b', o' + j * 6, none⟩ = some (.int .i64 y.id) ∧ w'.cell? ⟨b', o' + j * 6 + 1, none⟩ = some (.string y.de) ∧ w'.cell? ⟨b', o' + j * 6 + 2, none⟩ = some (.string y.cr) ∧ w'.cell? ⟨b', o' + j * 6 + 3, none⟩ = some (.int .i64 y.c) ∧ w'.cell? ⟨b', o' + j * 6 + 4, none⟩ = some (.int .i64 y.d) ∧ w'.cell? ⟨b', o' + j * 6 + 5, none⟩ = some (.int .i64 y.b)) := fun w' g' => ⟨n_cells (range_grew hr g'), n_cells (range_grew hry g')⟩
      clear hr hry hx hy
      cases hxy : eqEnt x y with
      | true =>
        have HT : Hid (l.take (j + 1) = k.take (j + 1)) := by unfold Hid; rw [List.take_add_one, List.take_add_one, HX.out, HY.out, HE.out, of_decide_eq_true hxy]
        go_wp2_with fail
        refine wp_region_seq (by kernel_rfl) Grew.refl (fun _ _ _ => Grew.trans) (fun _ _ _ _ _ h => h) (by kernel_rfl) ?_
        repeat (first
          | (refine TakeAll.pure (v := ?_) (by rfl) ?_ ?_; rotate_left; (intro w' g'; obtain ⟨⟨x0, x1, x2, x3, x4, x5⟩, y0, y1, y2, y3, y4, y5⟩ := hC w' g'; go_simp; first | done | with_reducible rfl); (simp only [Act.put, List.setIfInBounds_toArray, List.set_cons_zero, List.set_cons_succ]))
          | (refine TakeAll.skip (by rfl) ?_; (simp only [Act.put, List.setIfInBounds_toArray, List.set_cons_zero, List.set_cons_succ])))
        refine TakeAll.pure (v := .bool false) (by rfl) (fun w' _ => exec_neq50 (a := x) (b := y) (by rw [hxy]; rfl) rfl rfl rfl w') ?_
        simp only [Act.put, List.setIfInBounds_toArray, List.set_cons_zero, List.set_cons_succ]
        refine TakeAll.nil ?_
        intro w5 g5
        have gE := hg.drew.trans g5
        clear hC
        go_wp2_with fail
        go_roundw
        case rel => exact ⟨j + 1, by omega, by go_num, HT, gE⟩
        case measure => simp [intOf]; omega
      | false =>
        have HV : Hid (decide (l = k) = false) := decide_eq_false (fun e => by
          have h1 := HX.out
          rw [e, HY.out] at h1
          injection h1 with h1
          exact (of_decide_eq_false hxy) h1.symm)
        go_wp2_with fail
        refine wp_region_seq (by kernel_rfl) Grew.refl (fun _ _ _ => Grew.trans) (fun _ _ _ _ _ h => h) (by kernel_rfl) ?_
        repeat (first
          | (refine TakeAll.pure (v := ?_) (by rfl) ?_ ?_; rotate_left; (intro w' g'; obtain ⟨⟨x0, x1, x2, x3, x4, x5⟩, y0, y1, y2, y3, y4, y5⟩ := hC w' g'; go_simp; first | done | with_reducible rfl); (simp only [Act.put, List.setIfInBounds_toArray, List.set_cons_zero, List.set_cons_succ]))
          | (refine TakeAll.skip (by rfl) ?_; (simp only [Act.put, List.setIfInBounds_toArray, List.set_cons_zero, List.set_cons_succ])))
        refine TakeAll.pure (v := .bool true) (by rfl) (fun w' _ => exec_neq50 (a := x) (b := y) (by rw [hxy]; rfl) rfl rfl rfl w') ?_
        simp only [Act.put, List.setIfInBounds_toArray, List.set_cons_zero, List.set_cons_succ]
        refine TakeAll.nil ?_
        intro w5 g5
        have gE := hg.drew.trans g5
        clear hC
        go_wp2_with fail
        go_ret
        exact ⟨ret_bool HV.out.symm, gE⟩
    · have HV : Hid (decide (l = k) = true) := by
        have h1 := HE.out
        rw [List.take_of_length_le (by rw [LA.out]; omega), List.take_of_length_le (by rw [LB.out]; omega)] at h1
        exact decide_eq_true h1
      go_wp2_with fail
      go_ret
      exact ⟨ret_bool HV.out.symm, hg⟩
set_option maxRecDepth 100000 in
set_option maxHeartbeats 16000000 in
theorem rspent_any (A B : Option Addr) (n c m e : Nat) (d : Desk) (acc : ByteArray) (w : World) (h : DeskIs w A n c B m e d) : Calls Try.prog 17 #[.agg #[.slice A n c, .slice B m e], .string acc] w fun r w' => r = .returned (.int .i64 (spentL d acc)) ∧ Grew w w' := by
  have HD := Lib.hid h
  have HL := Lib.hid h.1.1.1
  have un := h.1.1.le
  clear h
  obtain ⟨b1, hb0⟩ : ∃ b, b = w.heap.size := ⟨_, rfl⟩
  obtain ⟨w1, hw0⟩ : ∃ x, x = w.alloc (.cells #[.slice A n c, .slice B m e] 25) := ⟨_, rfl⟩
  have g0 : Grew w w1 := by rw [hw0]; exact (Grew.refl w).alloc _
  have sz0 : w1.heap.size = w.heap.size + 1 := by rw [hw0]; simp
  have HRd : Hid (w1.rangeAt b1 0 [.slice A n c, .slice B m e]) := by
    unfold Hid
    rw [hb0]
    exact range_grew (by rw [hw0]; exact range_new w _ 25) (Grew.refl _)
  have gg : Grew w w1 := g0
  clear sz0 g0
  go_enter Try.func17, Try.ntmps17
  go_upto_region 1 with (fail)
  rw [← hw0]
  rw [← hb0]
  clear hw0 hb0
  replace HD := Lib.hid (HD.out.grew gg)
  obtain ⟨tv, hvv⟩ : ∃ t, validB d = t := ⟨_, rfl⟩
  have HV := Lib.hid hvv
  clear hvv
  obtain ⟨z0_0, z0_1⟩ := d_cells HRd.out
  go_wp2_with fail
  clear z0_0 z0_1
  refine (rvalid_val HD.out HV.out).mono ?_
  rintro r w5 ⟨rfl, g⟩
  replace HRd := Lib.hid (range_grew HRd.out g)
  replace HD := Lib.hid (HD.out.grew g)
  replace gg := gg.trans g
  clear g
  cases tv with
  | false =>
    have HZ : Hid (spentL d acc = 0) := by unfold Hid spentL; rw [HV.out]; rfl
    go_wp2_with fail
    go_ret
    exact ⟨ret_int HZ.out.symm, gg⟩
  | true =>
    have HZ : Hid (spentL d acc = sm (spF acc) d.ss) := by unfold Hid spentL; rw [HV.out]; rfl
    have hn4 : n ≤ 400 := by rw [← HL.out]; exact (valid_parts HV.out).1
    go_wp2_with fail
    go_loopw [5, 6] (fun v i y => ∃ (k : Nat) (s : Int), k ≤ n ∧ i = .int .i64 k ∧ v = .int .i64 s ∧ Hid (s = sm (spF acc) (d.ss.take k)) ∧ Grew w5 y) (fun _ i _ => n - (intOf i).toNat)
    case atStart => exact ⟨0, 0, Nat.zero_le _, rfl, rfl, rfl, Grew.refl _⟩
    case round =>
      obtain ⟨k, s, hk, rfl, rfl, HS, hg⟩ := hrel
      have hsb := sm_sp_bound HV.out acc k
      rw [← HS.out] at hsb
      obtain ⟨hs1, hs2⟩ := hsb
      obtain ⟨r0, r1⟩ := d_cells (range_grew HRd.out hg)
      by_cases hlt : k < n
      · obtain ⟨b, o, x, rfl, hx, hr⟩ := (HD.out.1.1.grew hg).at_ se_ok hlt
        have HX := Lib.hid hx
        have hb := sta_bound HV.out (List.mem_of_getElem? hx)
        have k0 : (0 : Int) ≤ (k : Int) := by omega
        have k1 : (k : Int) < (n : Int) := by omega
        obtain ⟨c0, c1, c2, c3, c4, c5, c6⟩ := s_cells hr
        obtain ⟨wa, hwa⟩ : ∃ y, y = wr.alloc (.cells #[.int .i64 x.p.id, .string x.p.acc, .int .i64 x.p.c, .int .i64 x.p.d, .int .i64 x.st, .int .i64 x.pd, .int .i64 x.bk] 43) := ⟨_, rfl⟩
        have ga : Grew wr wa := by rw [hwa]; exact (Grew.refl wr).alloc _
        obtain ⟨bx, hbx⟩ : ∃ b, b = wr.heap.size := ⟨_, rfl⟩
        have hrx : wa.rangeAt bx 0 (se x) := by rw [hwa, hbx]; exact range_new wr (se x) 43
        obtain ⟨x0, x1, x2, x3, x4, x5, x6⟩ := s_cells0 hrx
        have gE := hg.trans ga
        clear hx hr hrx hg ga
        by_cases h1 : x.p.acc = acc
        · have q1 : (x.p.acc.toList == acc.toList) = true := by rw [str_eq]; exact decide_eq_true h1
          by_cases h2 : x.st = 4
          · have q2 : (x.st != 4) = false := by rw [bne_eq_false_iff_eq]; exact h2
            have HS2 : Hid (s = sm (spF acc) (d.ss.take (k + 1))) := by unfold Hid; rw [sm_take _ HX.out, ← HS.out]; unfold spF; rw [if_neg (fun hh => hh.2 h2)]; omega
            clear h1 h2
            go_upto_region 8 with (fail)
            rw [← hwa, ← hbx]
            clear hwa hbx c0 c1 c2 c3 c4 c5 c6 r0 r1
            go_wp2_with fail
            go_roundw
            case rel => exact ⟨k + 1, s, by omega, by go_num, rfl, HS2, gE⟩
            case measure => simp [intOf]; omega
          · have q2 : (x.st != 4) = true := by rw [bne_iff_ne]; exact h2
            have HS2 : Hid (s + (x.p.c - x.bk) = sm (spF acc) (d.ss.take (k + 1))) := by unfold Hid; rw [sm_take _ HX.out, ← HS.out]; unfold spF; rw [if_pos ⟨h1, h2⟩]
            have w1 : IntKind.i64.wrap (x.p.c - x.bk) = x.p.c - x.bk := IntWalk.i64_in _ (by omega)
            have w2 : IntKind.i64.wrap (s + (x.p.c - x.bk)) = s + (x.p.c - x.bk) := IntWalk.i64_in _ (by omega)
            clear h1 h2
            go_upto_region 8 with (fail)
            rw [← hwa, ← hbx]
            clear hwa hbx c0 c1 c2 c3 c4 c5 c6 r0 r1
            go_wp2_with fail
            go_roundw
            case rel => exact ⟨k + 1, s + (x.p.c - x.bk), by omega, by go_num, rfl, HS2, gE⟩
            case measure => simp [intOf]; omega
        · have q1 : (x.p.acc.toList == acc.toList) = false := by rw [str_eq]; exact decide_eq_false h1
          have HS2 : Hid (s = sm (spF acc) (d.ss.take (k + 1))) := by unfold Hid; rw [sm_take _ HX.out, ← HS.out]; unfold spF; rw [if_neg (fun hh => h1 hh.1)]; omega
          clear h1
          go_upto_region 8 with (fail)
          rw [← hwa, ← hbx]
          clear hwa hbx c0 c1 c2 c3 c4 c5 c6 r0 r1
          go_wp2_with fail
          go_roundw
          case rel => exact ⟨k + 1, s, by omega, by go_num, rfl, HS2, gE⟩
          case measure => simp [intOf]; omega
      · have HS3 : Hid (s = spentL d acc) := by
          unfold Hid
          rw [HZ.out, HS.out, List.take_of_length_le (by rw [HL.out]; omega)]
        go_wp2_with fail
        go_ret
        exact ⟨ret_int HS3.out, gg.trans hg⟩
/-- A contract's end: a desk in rows of its own. -/
def RetDO (d0 : Desk) (w : World) (r : Ending) (w' : World) : Prop :=
  ∃ A n c B m e, r = .returned (.agg #[.slice A n c, .slice B m e]) ∧ d0.ss.length = n ∧ d0.an.length = m ∧ w'.ownsRow w.heap.size 43 7 (.slice A n c) n (d0.ss.flatMap se) ∧ w'.ownsRow w.heap.size 29 5 (.slice B m e) m (d0.an.flatMap ae) ∧ Grew w w'
set_option maxRecDepth 100000 in
set_option maxHeartbeats 16000000 in
theorem copy_any (A B : Option Addr) (n c m e : Nat) (d : Desk) (w : World) (h : DeskIs w A n c B m e d) (hn : n ≤ 5000) (hm : m ≤ 5000) : Calls Try.prog 35 #[.agg #[.slice A n c, .slice B m e]] w (RetDO d w) := by
  obtain ⟨i0, hi, hz0, hz1, hz2⟩ := info_parts info43
  obtain ⟨j0, hj, hy0, hy1, hy2⟩ := info_parts info29
  have HD := Lib.hid h
  have HL := Lib.hid h.1.1.1
  have HLA := Lib.hid h.2.1
  have HWF := Lib.hid h.1.2
  clear h
  obtain ⟨b1, hb1⟩ : ∃ b, b = w.heap.size := ⟨_, rfl⟩
  obtain ⟨b2, hb2⟩ : ∃ b, b = w.heap.size + 1 := ⟨_, rfl⟩
  obtain ⟨b3, hb3⟩ : ∃ b, b = w.heap.size + 1 + 1 := ⟨_, rfl⟩
  obtain ⟨w1, hw1⟩ : ∃ x, x = w.alloc (.cells #[.slice A n c, .slice B m e] 25) := ⟨_, rfl⟩
  obtain ⟨w2, hw2⟩ : ∃ x, x = w1.alloc (.cells #[.slice none 0 0, .slice none 0 0] 25) := ⟨_, rfl⟩
  obtain ⟨w3, hw3⟩ : ∃ x, x = w2.alloc (.cells #[.slice none 0 0, .slice none 0 0] 25) := ⟨_, rfl⟩
  have g1 : Grew w w1 := by rw [hw1]; exact (Grew.refl w).alloc _
  have g12 : Grew w1 w2 := by rw [hw2]; exact (Grew.refl w1).alloc _
  have g23 : Grew w2 w3 := by rw [hw3]; exact (Grew.refl w2).alloc _
  have sz1 : w1.heap.size = w.heap.size + 1 := by rw [hw1]; simp
  have sz2 : w2.heap.size = w.heap.size + 1 + 1 := by rw [hw2]; simp [sz1]
  have sz3 : w3.heap.size = w.heap.size + 1 + 1 + 1 := by rw [hw3]; simp [sz2]
  have HRd : Hid (w3.rangeAt b1 0 [.slice A n c, .slice B m e]) := by rw [hb1]; exact range_grew (by rw [hw1]; exact range_new w _ 25) (g12.trans g23)
  have HB2 : Hid (w3.heap[b2]? = some (.cells #[.slice none 0 0, .slice none 0 0] 25)) := by unfold Hid; rw [hb2, ← sz1]; exact g23.block (by rw [hw2]; exact heap_alloc_new w1 _)
  have HB3 : Hid (w3.heap[b3]? = some (.cells #[.slice none 0 0, .slice none 0 0] 25)) := by unfold Hid; rw [hb3, ← sz2, hw3]; exact heap_alloc_new w2 _
  have G3 := (g1.trans g12).trans g23
  have hbb : w.heap.size ≤ b1 ∧ w.heap.size ≤ b2 ∧ w.heap.size ≤ b3 ∧ b1 < w3.heap.size ∧ b2 < w3.heap.size ∧ b3 < w3.heap.size ∧ b1 ≠ b3 ∧ b2 ≠ b3 := by omega
  clear g1 g12 g23 sz1 sz2 sz3
  go_enter Try.func35, Try.ntmps35
  go_upto_region 2 with (fail)
  rw [← hw1]
  rw [← hw2]
  rw [← hw3, ← hb3, ← hb2, ← hb1]
  clear hw1 hw2 hw3 hb1 hb2 hb3
  obtain ⟨c0, c1⟩ := d_cells HRd.out
  obtain ⟨y0, y1⟩ := d_cells (row_at (l := [.slice none 0 0, .slice none 0 0]) HB3.out)
  have f0 := row_free HB3.out 0
  have hSA := (HD.out.1.1.grew G3).2
  go_upto_region 3 with (at_builtin; refine wpList_append_sl _ rfl (.tmp 5) (.tmp 7) 22 rfl w3.heap.size 43 i0 _ 7 64 Try.underlying22 hi hz0 hz1 hz2 rfl (by decide) (.slice none 0 0) 0 _ rfl (World.ownsRow_nil _ _ _ _) A n c _ rfl hSA (flat_one se_ok _) (by unfold maxLen; omega) (by omega) (Nat.le_refl _) ?_; intro v4 w4 own4 hg4 hat4; obtain ⟨A4, c4, rfl⟩ := own_form own4; rw [Nat.zero_add, List.nil_append] at own4; have G4 : Grew w3 w4 := (Grew.refl _).grown hg4 (fun j hj => by cases hj); replace y0 := G4.cell y0; replace f0 := row_free (G4.block HB3.out) 0; rw [Nat.zero_add])
  clear c0 c1 y0 y1 f0 hg4 hat4
  obtain ⟨w5, hw5⟩ : ∃ y, y = w4.setCell ⟨b3, 0, none⟩ (.slice A4 n c4) := ⟨_, rfl⟩
  have hsg := set_grown w4 b3 0 (.slice A4 n c4)
  have G5 : Grew w w5 := by rw [hw5]; exact (G3.trans G4).set hbb.2.2.1 _
  have OW5 : Hid (w5.ownsRow w3.heap.size 43 7 (.slice A4 n c4) n (d.ss.flatMap se)) := by rw [hw5]; exact own_kept own4 hsg (fun k hk => by injection hk with hk; omega)
  have HRd5 : Hid (w5.rangeAt b1 0 [.slice A n c, .slice B m e]) := by rw [hw5]; exact range_far (range_grew HRd.out G4) hsg (fun e => hbb.2.2.2.2.2.2.1 (by injection e))
  have HB25 : Hid (w5.heap[b2]? = some (.cells #[.slice none 0 0, .slice none 0 0] 25)) := by
    rw [hw5]
    unfold Hid
    rw [hsg.block b2 (by have := G4.le; omega) (fun e => hbb.2.2.2.2.2.2.2 (by injection e))]
    exact G4.block HB2.out
  have HB35 : Hid (w5.heap[b3]? = some (.cells #[.slice A4 n c4, .slice none 0 0] 25)) := by
    rw [hw5]
    exact Go.heap_setCell_same w4 b3 0 _ 25 _ (G4.block HB3.out)
  have h35 : w3.heap.size ≤ w5.heap.size := by rw [hw5]; have := G4.le; have := hsg.size; omega
  rw [← hw5]
  clear hw5 hsg own4 G4 HRd HB2 HB3
  obtain ⟨c0, c1⟩ := d_cells HRd5.out
  obtain ⟨y0, y1⟩ := d_cells (row_at (l := [.slice A4 n c4, .slice none 0 0]) HB35.out)
  have f1 := row_free HB35.out 1
  have hSB := (HD.out.2.grew G5).2
  go_upto_region 4 with (at_builtin; refine wpList_append_sl _ rfl (.tmp 11) (.tmp 13) 23 rfl w3.heap.size 29 j0 _ 5 40 Try.underlying23 hj hy0 hy1 hy2 rfl (by decide) (.slice none 0 0) 0 _ rfl (World.ownsRow_nil _ _ _ _) B m e _ rfl hSB (flat_one ae_ok _) (by unfold maxLen; omega) (by omega) h35 ?_; intro v6 w6 own6 hg6 hat6; obtain ⟨B6, c6, rfl⟩ := own_form own6; rw [Nat.zero_add, List.nil_append] at own6; have G6 : Grew w5 w6 := (Grew.refl _).grown hg6 (fun j hj => by cases hj); replace y1 := G6.cell y1; replace f1 := row_free (G6.block HB35.out) 1; rw [Nat.zero_add])
  clear c0 c1 y0 y1 f1 hg6 hat6
  obtain ⟨w7, hw7⟩ : ∃ y, y = w6.setCell ⟨b3, 1, none⟩ (.slice B6 m c6) := ⟨_, rfl⟩
  have hsg := set_grown w6 b3 1 (.slice B6 m c6)
  have G7 : Grew w w7 := by rw [hw7]; exact (G5.trans G6).set hbb.2.2.1 _
  have OW7 : Hid (w7.ownsRow w3.heap.size 43 7 (.slice A4 n c4) n (d.ss.flatMap se)) := by rw [hw7]; exact own_kept (own_grew OW5.out G6) hsg (fun k hk => by injection hk with hk; omega)
  have OA7 : Hid (w7.ownsRow w3.heap.size 29 5 (.slice B6 m c6) m (d.an.flatMap ae)) := by rw [hw7]; exact own_kept own6 hsg (fun k hk => by injection hk with hk; omega)
  have HB27 : Hid (w7.heap[b2]? = some (.cells #[.slice none 0 0, .slice none 0 0] 25)) := by
    rw [hw7]
    unfold Hid
    rw [hsg.block b2 (by have := G6.le; omega) (fun e => hbb.2.2.2.2.2.2.2 (by injection e))]
    exact G6.block HB25.out
  have HB37 : Hid (w7.heap[b3]? = some (.cells #[.slice A4 n c4, .slice B6 m c6] 25)) := by
    rw [hw7]
    exact Go.heap_setCell_same w6 b3 1 _ 25 _ (G6.block HB35.out)
  rw [← hw7]
  clear hw7 hsg own6 G6 HRd5 HB25 HB35 OW5
  obtain ⟨x0, x1⟩ := d_cells (row_at (l := [.slice A4 n c4, .slice B6 m c6]) HB37.out)
  obtain ⟨y0, y1⟩ := d_cells (row_at (l := [.slice none 0 0, .slice none 0 0]) HB27.out)
  have f0 := row_free HB27.out 0
  have f1 := row_free HB27.out 1
  go_wp2_with fail
  refine bodyPost_ret (results_cell_row rfl _ _ b2 25 _ (0, 0) _ rfl (set2 HB27.out _ _) Try.underlying25 rfl (by kernel_rfl)) rfl ?_
  have hb2w : b2 < w3.heap.size := hbb.2.2.2.2.1
  refine ⟨A4, n, c4, B6, m, c6, rfl, HL.out, HLA.out, own_base (own_set2 OW7.out hb2w _ _) ?_, own_base (own_set2 OA7.out hb2w _ _) ?_, (G7.set hbb.2.1 _).set hbb.2.1 _⟩
  · exact G3.le
  · exact G3.le
end Go.Proofs.Ytaocjobbfcfleaa
