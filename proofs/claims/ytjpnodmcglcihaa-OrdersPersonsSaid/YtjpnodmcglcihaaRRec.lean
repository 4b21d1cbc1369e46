/-
  The reference's Record.
-/
import Derived.Test.YtjpnodmcglcihaaRValid
namespace Go.Proofs.Ytjpnodmcglcihaa
open Go.RowKit Go.Proofs WageMem WageOrd WageRec WageMap WageReg

set_option maxRecDepth 100000 in
set_option maxHeartbeats 8000000 in
theorem rrecord_any (A : Option Addr) (n c : Nat) (l : List Ord) (o : Ord) (w : World) (h : Ords w A n c l) (hn : n ≤ 410) (ho : Wf [o]) :
    Calls Try.prog 13 #[.slice A n c, .agg #[.int .i64 o.n, .string o.p, .string o.c, .int .i64 o.r, .int .i64 o.k, .int .i64 o.f, .int .i64 o.m, .bool o.fam]] w (RetE (recL l o) w) := by
  obtain ⟨i0, hi, hz0, hz1, hz2⟩ := info_parts info24
  have HH := Lib.hid h
  have HL := Lib.hid h.1.1
  have WO := Lib.hid (ho o (by simp))
  have bo := (ho o (by simp)).2.2
  have WF : Hid (Wf (l ++ [o])) := wf_app h.2 ho
  obtain ⟨w0, hw0⟩ : ∃ y, y = w.alloc (.cells #[.int .i64 o.n, .string o.p, .string o.c, .int .i64 o.r, .int .i64 o.k, .int .i64 o.f, .int .i64 o.m, .bool o.fam] 24) := ⟨_, rfl⟩
  have g00 : Grew w w0 := by rw [hw0]; exact (Grew.refl w).alloc _
  have HR0 : Hid (w0.rangeAt w.heap.size 0 (oe o)) := by rw [hw0]; exact range_new w (oe o) 24
  obtain ⟨c0, c1, c2, c3, c4, c5, c6, c7⟩ := cells24n HR0.out
  obtain ⟨vl, hvl⟩ : ∃ b, validB l = b := ⟨_, rfl⟩
  have HVL := Lib.hid hvl
  clear h ho hvl
  cases vl with
  | false =>
    have HV := Lib.hid (rec_arg (l := l) (o := o) (by rw [HVL.out]; rfl))
    go_enter Try.func13, Try.ntmps13
    go_wp2_with fail
    rw [← hw0]
    refine (rvalid_val (HH.out.grew g00) HVL.out).mono ?_
    rintro e w1 ⟨rfl, g1⟩
    have GEND := g00.trans g1
    clear c0 c1 c2 c3 c4 c5 c6 c7
    go_wp2_with fail
    go_ret2
    exact ⟨none, 0, 0, by rw [HV.out]; rfl, by rw [HV.out]; rfl, by rw [HV.out]; exact World.ownsRow_nil _ _ _ _, GEND⟩
  | true =>
    obtain ⟨fo, hfo⟩ : ∃ b, formB o = b := ⟨_, rfl⟩
    have HFO := Lib.hid hfo
    clear hfo
    go_enter Try.func13, Try.ntmps13
    go_wp2_with fail
    rw [← hw0]
    refine (rvalid_val (HH.out.grew g00) HVL.out).mono ?_
    rintro e w1 ⟨rfl, g1⟩
    have HR1 := Lib.hid (range_grew HR0.out g1)
    clear c0 c1 c2 c3 c4 c5 c6 c7
    obtain ⟨c0, c1, c2, c3, c4, c5, c6, c7⟩ := cells24n HR1.out
    go_wp2_with fail
    refine (rformed_val (o := o) HFO.out WO.out.1 WO.out.2.1 _).mono ?_
    rintro e w2 ⟨rfl, g2⟩
    have HR2 := Lib.hid (range_grew HR1.out g2)
    have G02 : Hid (Grew w w2) := Lib.hid ((g00.trans g1).trans g2)
    clear c0 c1 c2 c3 c4 c5 c6 c7 hw0 HR0 HR1 g00 g1 g2
    cases fo with
    | false =>
      have HV := Lib.hid (rec_arg (l := l) (o := o) (by rw [HVL.out, HFO.out]; rfl))
      have GEND := G02.out
      go_wp2_with fail
      go_ret2
      exact ⟨none, 0, 0, by rw [HV.out]; rfl, by rw [HV.out]; rfl, by rw [HV.out]; exact World.ownsRow_nil _ _ _ _, GEND⟩
    | true =>
      have HVF : Hid ((validB l && formB o) = true) := by unfold Hid; rw [HVL.out, HFO.out]; rfl
      have HRO := Lib.hid (range_grew HR2.out (Grew.refl w2).drew)
      have hC : ∀ w', Grew w2.drew w' → w'.cell? ⟨w.heap.size, 0, none⟩ = some (.int .i64 o.n) ∧ w'.cell? ⟨w.heap.size, 1, none⟩ = some (.string o.p) ∧ w'.cell? ⟨w.heap.size, 2, none⟩ = some (.string o.c) ∧ w'.cell? ⟨w.heap.size, 3, none⟩ = some (.int .i64 o.r) ∧ w'.cell? ⟨w.heap.size, 4, none⟩ = some (.int .i64 o.k) ∧ w'.cell? ⟨w.heap.size, 5, none⟩ = some (.int .i64 o.f) ∧ w'.cell? ⟨w.heap.size, 6, none⟩ = some (.int .i64 o.m) ∧ w'.cell? ⟨w.heap.size, 7, none⟩ = some (.bool o.fam) := fun w' g' => cells24n (range_grew HRO.out g')
      have hlast : (n = 0 ∧ Hid (prevB l l.length o = true)) ∨ ∃ b q y, 0 < n ∧ A = some ⟨b, q, none⟩ ∧ w2.drew.cell? ⟨b, q + (n - 1) * 8 + 4, none⟩ = some (.int .i64 y) ∧ Hid (prevB l l.length o = decide (y ≤ o.k)) := by
        by_cases h0 : n = 0
        · exact .inl ⟨h0, by have : l.length = 0 := by rw [HL.out, h0]
                             unfold Hid; rw [this]; rfl⟩
        · obtain ⟨b, q, x, e, hx, hr⟩ := (HH.out.1.grew (G02.out.drew)).at_ oe_ok (show n - 1 < n by omega)
          exact .inr ⟨b, q, x.k, by omega, e, hr 4 _ rfl, prev_last (by rw [HL.out]; omega) (by rw [HL.out]; exact hx)⟩
      rcases hlast with ⟨hn0, HPV⟩ | ⟨b, q, y, hn0, rfl, d4, HPV⟩
      · have t1 : decide (0 < (n : Int)) = false := decide_eq_false (by omega)
        have t2 : decide (0 < n) = false := decide_eq_false (by omega)
        clear hn0
        go_wp2_with fail
        refine wp_region_seq (by kernel_rfl) Grew.refl (fun _ _ _ => Grew.trans) (fun _ _ _ _ _ h => h) (by kernel_rfl) ?_
        repeat (first
          | (refine TakeAll.pure (v := ?_) (by rfl) ?_ ?_; rotate_left; (intro w' g'; obtain ⟨c0, c1, c2, c3, c4, c5, c6, c7⟩ := hC w' g'; go_simp; first | done | with_reducible rfl); (simp only [Act.put, List.setIfInBounds_toArray, List.set_cons_zero, List.set_cons_succ]))
          | (refine TakeAll.skip (by rfl) ?_; (simp only [Act.put, List.setIfInBounds_toArray, List.set_cons_zero, List.set_cons_succ])))
        refine TakeAll.nil ?_
        intro w3 g3
        have G03 := Lib.hid ((G02.out.drew).trans g3)
        have HR3 := Lib.hid (range_grew HRO.out g3)
        clear hC HRO HR2 g3
        go_wp2_with fail
        go_loopw [6] (fun i wr => ∃ k : Nat, k ≤ n ∧ i = .int .i64 k ∧ Hid (fitsB l k o = true) ∧ Grew w3 wr) (fun i _ => n - (intOf i).toNat)
        case atStart => exact ⟨0, Nat.zero_le _, rfl, rfl, Grew.refl _⟩
        case round =>
          obtain ⟨k, hk, rfl, HFT, hg⟩ := hrel
          have HRr := Lib.hid (range_grew HR3.out hg.drew)
          by_cases hlt : k < n
          · obtain ⟨b, q, x, hAx, hx, hr⟩ := (HH.out.1.grew ((G03.out.trans hg).drew)).at_ oe_ok hlt
            subst hAx
            have HX := Lib.hid hx
            have HRX := Lib.hid hr
            have j0 : (0 : Int) ≤ (k : Int) := by omega
            have j1 : (k : Int) < (n : Int) := by omega
            have hC : ∀ w', Grew wr.drew w' → (w'.cell? ⟨w.heap.size, 0, none⟩ = some (.int .i64 o.n) ∧ w'.cell? ⟨w.heap.size, 1, none⟩ = some (.string o.p) ∧ w'.cell? ⟨w.heap.size, 2, none⟩ = some (.string o.c) ∧ w'.cell? ⟨w.heap.size, 3, none⟩ = some (.int .i64 o.r) ∧ w'.cell? ⟨w.heap.size, 4, none⟩ = some (.int .i64 o.k) ∧ w'.cell? ⟨w.heap.size, 5, none⟩ = some (.int .i64 o.f) ∧ w'.cell? ⟨w.heap.size, 6, none⟩ = some (.int .i64 o.m) ∧ w'.cell? ⟨w.heap.size, 7, none⟩ = some (.bool o.fam)) ∧ w'.cell? ⟨b, q + k * 8, none⟩ = some (.int .i64 x.n) ∧ w'.cell? ⟨b, q + k * 8 + 1, none⟩ = some (.string x.p) ∧ w'.cell? ⟨b, q + k * 8 + 2, none⟩ = some (.string x.c) := fun w' g' => ⟨cells24n (range_grew HRr.out g'), range_grew HRX.out g' 0 _ rfl, range_grew HRX.out g' 1 _ rfl, range_grew HRX.out g' 2 _ rfl⟩
            clear hx hr
            by_cases e1 : x.n = o.n
            · have q1 : (x.n == o.n) = true := by rw [beq_iff_eq]; exact e1
              by_cases e2 : x.p = o.p
              · have q2 : (x.p.toList == o.p.toList) = true := by rw [str_eq]; exact decide_eq_true e2
                by_cases e3 : x.c = o.c
                · have q3 : (x.c.toList == o.c.toList) = true := by rw [str_eq]; exact decide_eq_true e3
                  have HFT' : Hid (fitsB l (k + 1) o = true) := fits_to HFT.out HX.out (by unfold fitB; rw [decide_eq_true e2, decide_eq_true e3]; simp)
                  clear e1 e2 e3
                  go_wp2_with fail
                  refine wp_region_seq (by kernel_rfl) Grew.refl (fun _ _ _ => Grew.trans) (fun _ _ _ _ _ h => h) (by kernel_rfl) ?_
                  repeat (first
                    | (refine TakeAll.pure (v := ?_) (by rfl) ?_ ?_; rotate_left; (intro w' g'; obtain ⟨⟨o0, o1, o2, o3, o4, o5, o6, o7⟩, x0, x1, x2⟩ := hC w' g'; go_simp; first | done | with_reducible rfl); (simp only [Act.put, List.setIfInBounds_toArray, List.set_cons_zero, List.set_cons_succ]))
                    | (refine TakeAll.skip (by rfl) ?_; (simp only [Act.put, List.setIfInBounds_toArray, List.set_cons_zero, List.set_cons_succ])))
                  refine TakeAll.nil ?_
                  intro w6 g6
                  have GEND := (hg.drew).trans g6
                  clear hC
                  go_wp2_with fail
                  go_roundw
                  case rel => exact ⟨k + 1, by omega, by go_num, HFT', GEND⟩
                  case measure => simp [intOf]; omega
                · have q3 : (x.c.toList == o.c.toList) = false := by rw [str_eq]; exact decide_eq_false e3
                  have HV := Lib.hid (rec_order HVF.out HPV.out (fits_bad HX.out (by unfold fitB; rw [decide_eq_false e3, e1]; simp)))
                  clear e1 e2 e3
                  go_wp2_with fail
                  refine wp_region_seq (by kernel_rfl) Grew.refl (fun _ _ _ => Grew.trans) (fun _ _ _ _ _ h => h) (by kernel_rfl) ?_
                  repeat (first
                    | (refine TakeAll.pure (v := ?_) (by rfl) ?_ ?_; rotate_left; (intro w' g'; obtain ⟨⟨o0, o1, o2, o3, o4, o5, o6, o7⟩, x0, x1, x2⟩ := hC w' g'; go_simp; first | done | with_reducible rfl); (simp only [Act.put, List.setIfInBounds_toArray, List.set_cons_zero, List.set_cons_succ]))
                    | (refine TakeAll.skip (by rfl) ?_; (simp only [Act.put, List.setIfInBounds_toArray, List.set_cons_zero, List.set_cons_succ])))
                  refine TakeAll.nil ?_
                  intro w6 g6
                  have GEND := ((G03.out.trans hg).drew).trans g6
                  clear hC
                  go_wp2_with fail
                  go_ret2
                  exact ⟨none, 0, 0, by rw [HV.out]; rfl, by rw [HV.out]; rfl, by rw [HV.out]; exact World.ownsRow_nil _ _ _ _, GEND⟩
              · have q2 : (x.p.toList == o.p.toList) = false := by rw [str_eq]; exact decide_eq_false e2
                have HV := Lib.hid (rec_order HVF.out HPV.out (fits_bad HX.out (by unfold fitB; rw [decide_eq_false e2, e1]; simp)))
                clear e1 e2
                go_wp2_with fail
                refine wp_region_seq (by kernel_rfl) Grew.refl (fun _ _ _ => Grew.trans) (fun _ _ _ _ _ h => h) (by kernel_rfl) ?_
                repeat (first
                  | (refine TakeAll.pure (v := ?_) (by rfl) ?_ ?_; rotate_left; (intro w' g'; obtain ⟨⟨o0, o1, o2, o3, o4, o5, o6, o7⟩, x0, x1, x2⟩ := hC w' g'; go_simp; first | done | with_reducible rfl); (simp only [Act.put, List.setIfInBounds_toArray, List.set_cons_zero, List.set_cons_succ]))
                  | (refine TakeAll.skip (by rfl) ?_; (simp only [Act.put, List.setIfInBounds_toArray, List.set_cons_zero, List.set_cons_succ])))
                refine TakeAll.nil ?_
                intro w6 g6
                have GEND := ((G03.out.trans hg).drew).trans g6
                clear hC
                go_wp2_with fail
                go_ret2
                exact ⟨none, 0, 0, by rw [HV.out]; rfl, by rw [HV.out]; rfl, by rw [HV.out]; exact World.ownsRow_nil _ _ _ _, GEND⟩
            · have q1 : (x.n == o.n) = false := by rw [beq_eq_false_iff_ne]; exact e1
              have HFT' : Hid (fitsB l (k + 1) o = true) := fits_to HFT.out HX.out (by unfold fitB; rw [bne_iff_ne.2 e1]; rfl)
              clear e1
              go_wp2_with fail
              refine wp_region_seq (by kernel_rfl) Grew.refl (fun _ _ _ => Grew.trans) (fun _ _ _ _ _ h => h) (by kernel_rfl) ?_
              repeat (first
                | (refine TakeAll.pure (v := ?_) (by rfl) ?_ ?_; rotate_left; (intro w' g'; obtain ⟨⟨o0, o1, o2, o3, o4, o5, o6, o7⟩, x0, x1, x2⟩ := hC w' g'; go_simp; first | done | with_reducible rfl); (simp only [Act.put, List.setIfInBounds_toArray, List.set_cons_zero, List.set_cons_succ]))
                | (refine TakeAll.skip (by rfl) ?_; (simp only [Act.put, List.setIfInBounds_toArray, List.set_cons_zero, List.set_cons_succ])))
              refine TakeAll.nil ?_
              intro w6 g6
              have GEND := (hg.drew).trans g6
              clear hC
              go_wp2_with fail
              go_roundw
              case rel => exact ⟨k + 1, by omega, by go_num, HFT', GEND⟩
              case measure => simp [intOf]; omega
          · have HFT' : Hid (fitsB l l.length o = true) := by have := HFT.out; rwa [show k = l.length by rw [HL.out]; omega] at this
            have HFT := HFT'
            clear HFT'
            have hC : ∀ w', Grew wr.drew w' → w'.cell? ⟨w.heap.size, 0, none⟩ = some (.int .i64 o.n) ∧ w'.cell? ⟨w.heap.size, 1, none⟩ = some (.string o.p) ∧ w'.cell? ⟨w.heap.size, 2, none⟩ = some (.string o.c) ∧ w'.cell? ⟨w.heap.size, 3, none⟩ = some (.int .i64 o.r) ∧ w'.cell? ⟨w.heap.size, 4, none⟩ = some (.int .i64 o.k) ∧ w'.cell? ⟨w.heap.size, 5, none⟩ = some (.int .i64 o.f) ∧ w'.cell? ⟨w.heap.size, 6, none⟩ = some (.int .i64 o.m) ∧ w'.cell? ⟨w.heap.size, 7, none⟩ = some (.bool o.fam) := fun w' g' => cells24n (range_grew HRr.out g')
            have GW := Lib.hid ((G03.out.trans hg).drew)
            obtain ⟨vv, hvv⟩ : ∃ b, validB (l ++ [o]) = b := ⟨_, rfl⟩
            have HVV := Lib.hid hvv
            clear hvv
            go_wp2_with fail
            refine wp_region_G (G := Grew) (by kernel_rfl) Grew.refl 5 ?_
            refine wpAnyG_takes Grew.refl (fun _ _ _ => Grew.trans) (fun _ _ _ _ _ h => h) [0, 1, 3] (fuel' := 4) (by kernel_rfl) (by kernel_rfl) (by simp only [pickOps, List.getElem?_toArray, List.getElem?_cons_zero, List.getElem?_cons_succ]; rfl) ?_
            repeat (first
              | (refine TakeAll.pure (v := ?_) (by rfl) ?_ ?_; rotate_left; (intro w' g'; obtain ⟨c0, c1, c2, c3, c4, c5, c6, c7⟩ := hC w' g'; go_simp; first | done | with_reducible rfl); (simp only [Act.put, List.setIfInBounds_toArray, List.set_cons_zero, List.set_cons_succ]))
              | (refine TakeAll.skip (by rfl) ?_; (simp only [Act.put, List.setIfInBounds_toArray, List.set_cons_zero, List.set_cons_succ])))
            refine TakeAll.nil ?_
            refine wpAnyG_two (i := 2) (j := 4) (by kernel_rfl) (fuel' := 3) (by kernel_rfl) (by simp only [pickOps, List.getElem?_toArray, List.getElem?_cons_zero, List.getElem?_cons_succ]; rfl) rfl (by simp only [pickOps, List.getElem?_toArray, List.getElem?_cons_zero, List.getElem?_cons_succ]; rfl) rfl ?_ ?_
            · intro w1 g1 K hK
              obtain ⟨v4, w4, run4, own4, gr4, _⟩ := run_append_sl (P := Try.prog) w1 w.heap.size 22 22 24 i0 _ 8 80 Try.underlying22 hi hz0 hz1 hz2 rfl (by decide) _ 0 _ (World.ownsRow_nil w1 w.heap.size 24 8) _ n c (flatO l) (HH.out.1.2.grew (GW.out.trans g1)) (flat_one oe_ok _) (by unfold maxLen; omega) (by omega) (GW.out.trans g1).le
              rw [Nat.zero_add, List.nil_append] at own4
              obtain ⟨A4, c4', rfl⟩ := own_form own4
              have g4 : Grew w1 w4 := (Grew.refl w1).grown gr4 (by simp [Value.ownBlock])
              refine wp_append_run w1 (.tmp 65) (.tmp 66) 22 22 rfl rfl rfl run4 ?_
              refine hK _ _ g4 ?_
              clear hK K run4 gr4
              simp only [Act.put, List.setIfInBounds_toArray, List.set_cons_zero, List.set_cons_succ]
              refine wpAnyG_step (i := 4) (by kernel_rfl) (fuel' := 2) (by kernel_rfl) (by simp only [pickOps, List.getElem?_toArray, List.getElem?_cons_zero, List.getElem?_cons_succ]; rfl) rfl ?_
              intro w5 g5 K hK
              go_simp
              have ga := (Grew.refl w5).alloc (.cells #[.int .i64 o.n, .string o.p, .string o.c, .int .i64 o.r, .int .i64 o.k, .int .i64 o.f, .int .i64 o.m, .bool o.fam] 24)
              refine hK _ _ ga ?_
              clear hK K
              have BI := Lib.hid (Recs.built (w := w5) oe_ok (t := 24) (l := [o]) (n := 1) #[.int .i64 o.n, .string o.p, .string o.c, .int .i64 o.r, .int .i64 o.k, .int .i64 o.f, .int .i64 o.m, .bool o.fam] rfl rfl (by decide))
              obtain ⟨w6, hw6⟩ : ∃ x, x = w5.alloc (.cells #[.int .i64 o.n, .string o.p, .string o.c, .int .i64 o.r, .int .i64 o.k, .int .i64 o.f, .int .i64 o.m, .bool o.fam] 24) := ⟨_, rfl⟩
              rw [← hw6] at BI ga ⊢
              obtain ⟨z6, hz6⟩ : ∃ z, z = w5.heap.size := ⟨_, rfl⟩
              rw [← hz6] at BI ⊢
              clear hw6 hz6
              have OWC := Lib.hid (own_grew (own_grew own4 g5) ga)
              have GALL : Grew w w6 := ((((GW.out.trans g1).trans g4).trans g5).trans ga)
              have hsz := GALL.le
              clear own4 g4 g5 ga g1 hC
              refine wpAnyG_end (by kernel_rfl) (fuel' := 1) (by kernel_rfl) (by simp only [pickOps, List.getElem?_toArray, List.getElem?_cons_zero, List.getElem?_cons_succ]; rfl) rfl ?_
              intro w7 g7 K hK
              obtain ⟨v8, w8, run8, own8, gr8, _⟩ := run_append_sl (P := Try.prog) w7 w.heap.size 22 22 24 i0 _ 8 80 Try.underlying22 hi hz0 hz1 hz2 rfl (by decide) _ n _ (own_grew OWC.out g7) _ 1 1 (flatO [o]) (BI.out.2.grew g7) (flat_one oe_ok _) (by unfold maxLen; omega) (by omega) (Nat.le_trans hsz g7.le)
              obtain ⟨A8, c8, rfl⟩ := own_form own8
              refine wp_append_run w7 (.tmp 67) (.tmp 69) 22 22 rfl rfl rfl run8 ?_
              refine hK _ _ ?_
              clear hK K run8
              simp only [Act.put, List.setIfInBounds_toArray, List.set_cons_zero, List.set_cons_succ]
              have GE8 : Grew w w8 := (GALL.trans g7).grown gr8 (fun j hj => (own_grew OWC.out g7).lt j hj |>.1)
              have OW8 : Hid (w8.ownsRow w.heap.size 24 8 (.slice A8 (n + 1) c8) (n + 1) (flatO (l ++ [o]))) := by unfold Hid flatO; rw [List.flatMap_append]; exact own8
              clear own8 gr8
              refine wpAny_rest (fun _ _ _ _ _ h => h) [6] (by kernel_rfl) (by kernel_rfl) (by kernel_rfl) (by simp only [pickOps, List.getElem?_toArray, List.getElem?_cons_zero, List.getElem?_cons_succ]; rfl) ?_
              repeat (first
                | (refine TakeAll.pure (v := ?_) (by rfl) ?_ ?_; rotate_left; (intro w' g'; go_simp; first | done | with_reducible rfl); (simp only [Act.put, List.setIfInBounds_toArray, List.set_cons_zero, List.set_cons_succ]))
                | (refine TakeAll.skip (by rfl) ?_; (simp only [Act.put, List.setIfInBounds_toArray, List.set_cons_zero, List.set_cons_succ])))
              refine TakeAll.nil ?_
              have hO8 : Ords w8 A8 (n + 1) c8 (l ++ [o]) := ⟨Recs.own (by rw [List.length_append, HL.out]; rfl) OW8.out, WF.out⟩
              have HO8 := Lib.hid hO8
              clear hO8
              go_wp2_with fail
              refine (rvalid_val HO8.out HVV.out).mono ?_
              rintro e w9 ⟨rfl, g9⟩
              cases vv with
              | false =>
                have HV := Lib.hid (rec_limit HVF.out HPV.out HFT.out HVV.out)
                have GEND := GE8.trans g9
                go_wp2_with fail
                go_ret2
                exact ⟨none, 0, 0, by rw [HV.out]; rfl, by rw [HV.out]; rfl, by rw [HV.out]; exact World.ownsRow_nil _ _ _ _, GEND⟩
              | true =>
                have HV := Lib.hid (rec_ok HVF.out HPV.out HFT.out HVV.out)
                have GEND := GE8.trans g9
                go_wp2_with fail
                go_ret2
                exact ⟨A8, n + 1, c8, by rw [HV.out]; rfl, by rw [HV.out]; show (l ++ [o]).length = n + 1; rw [List.length_append, HL.out]; rfl, by rw [HV.out]; exact own_grew OW8.out g9, GEND⟩
            · intro w1 g1 K hK
              go_simp
              have ga := (Grew.refl w1).alloc (.cells #[.int .i64 o.n, .string o.p, .string o.c, .int .i64 o.r, .int .i64 o.k, .int .i64 o.f, .int .i64 o.m, .bool o.fam] 24)
              refine hK _ _ ga ?_
              clear hK K
              have BI0 := Lib.hid (Recs.built (w := w1) oe_ok (t := 24) (l := [o]) (n := 1) #[.int .i64 o.n, .string o.p, .string o.c, .int .i64 o.r, .int .i64 o.k, .int .i64 o.f, .int .i64 o.m, .bool o.fam] rfl rfl (by decide))
              obtain ⟨w5, hw5⟩ : ∃ x, x = w1.alloc (.cells #[.int .i64 o.n, .string o.p, .string o.c, .int .i64 o.r, .int .i64 o.k, .int .i64 o.f, .int .i64 o.m, .bool o.fam] 24) := ⟨_, rfl⟩
              rw [← hw5] at BI0 ga ⊢
              obtain ⟨z6, hz6⟩ : ∃ z, z = w1.heap.size := ⟨_, rfl⟩
              rw [← hz6] at BI0 ⊢
              clear hw5 hz6
              refine wpAnyG_step (i := 2) (by kernel_rfl) (fuel' := 2) (by kernel_rfl) (by simp only [pickOps, List.getElem?_toArray, List.getElem?_cons_zero, List.getElem?_cons_succ]; rfl) rfl ?_
              intro w4 g4 K hK
              have GW4 := ((GW.out.trans g1).trans ga).trans g4
              obtain ⟨v4, w6, run4, own4, gr4, _⟩ := run_append_sl (P := Try.prog) w4 w.heap.size 22 22 24 i0 _ 8 80 Try.underlying22 hi hz0 hz1 hz2 rfl (by decide) _ 0 _ (World.ownsRow_nil w4 w.heap.size 24 8) _ n c (flatO l) (HH.out.1.2.grew GW4) (flat_one oe_ok _) (by unfold maxLen; omega) (by omega) GW4.le
              rw [Nat.zero_add, List.nil_append] at own4
              obtain ⟨A4, c4', rfl⟩ := own_form own4
              have g6 : Grew w4 w6 := (Grew.refl w4).grown gr4 (by simp [Value.ownBlock])
              refine wp_append_run w4 (.tmp 65) (.tmp 66) 22 22 rfl rfl rfl run4 ?_
              refine hK _ _ g6 ?_
              clear hK K run4 gr4
              simp only [Act.put, List.setIfInBounds_toArray, List.set_cons_zero, List.set_cons_succ]
              have OWC := Lib.hid own4
              have BI := Lib.hid (BI0.out.grew (g4.trans g6))
              have GALL : Grew w w6 := GW4.trans g6
              have hsz := GALL.le
              clear own4 g4 g6 ga g1 hC BI0 GW4
              refine wpAnyG_end (by kernel_rfl) (fuel' := 1) (by kernel_rfl) (by simp only [pickOps, List.getElem?_toArray, List.getElem?_cons_zero, List.getElem?_cons_succ]; rfl) rfl ?_
              intro w7 g7 K hK
              obtain ⟨v8, w8, run8, own8, gr8, _⟩ := run_append_sl (P := Try.prog) w7 w.heap.size 22 22 24 i0 _ 8 80 Try.underlying22 hi hz0 hz1 hz2 rfl (by decide) _ n _ (own_grew OWC.out g7) _ 1 1 (flatO [o]) (BI.out.2.grew g7) (flat_one oe_ok _) (by unfold maxLen; omega) (by omega) (Nat.le_trans hsz g7.le)
              obtain ⟨A8, c8, rfl⟩ := own_form own8
              refine wp_append_run w7 (.tmp 67) (.tmp 69) 22 22 rfl rfl rfl run8 ?_
              refine hK _ _ ?_
              clear hK K run8
              simp only [Act.put, List.setIfInBounds_toArray, List.set_cons_zero, List.set_cons_succ]
              have GE8 : Grew w w8 := (GALL.trans g7).grown gr8 (fun j hj => (own_grew OWC.out g7).lt j hj |>.1)
              have OW8 : Hid (w8.ownsRow w.heap.size 24 8 (.slice A8 (n + 1) c8) (n + 1) (flatO (l ++ [o]))) := by unfold Hid flatO; rw [List.flatMap_append]; exact own8
              clear own8 gr8
              refine wpAny_rest (fun _ _ _ _ _ h => h) [6] (by kernel_rfl) (by kernel_rfl) (by kernel_rfl) (by simp only [pickOps, List.getElem?_toArray, List.getElem?_cons_zero, List.getElem?_cons_succ]; rfl) ?_
              repeat (first
                | (refine TakeAll.pure (v := ?_) (by rfl) ?_ ?_; rotate_left; (intro w' g'; go_simp; first | done | with_reducible rfl); (simp only [Act.put, List.setIfInBounds_toArray, List.set_cons_zero, List.set_cons_succ]))
                | (refine TakeAll.skip (by rfl) ?_; (simp only [Act.put, List.setIfInBounds_toArray, List.set_cons_zero, List.set_cons_succ])))
              refine TakeAll.nil ?_
              have hO8 : Ords w8 A8 (n + 1) c8 (l ++ [o]) := ⟨Recs.own (by rw [List.length_append, HL.out]; rfl) OW8.out, WF.out⟩
              have HO8 := Lib.hid hO8
              clear hO8
              go_wp2_with fail
              refine (rvalid_val HO8.out HVV.out).mono ?_
              rintro e w9 ⟨rfl, g9⟩
              cases vv with
              | false =>
                have HV := Lib.hid (rec_limit HVF.out HPV.out HFT.out HVV.out)
                have GEND := GE8.trans g9
                go_wp2_with fail
                go_ret2
                exact ⟨none, 0, 0, by rw [HV.out]; rfl, by rw [HV.out]; rfl, by rw [HV.out]; exact World.ownsRow_nil _ _ _ _, GEND⟩
              | true =>
                have HV := Lib.hid (rec_ok HVF.out HPV.out HFT.out HVV.out)
                have GEND := GE8.trans g9
                go_wp2_with fail
                go_ret2
                exact ⟨A8, n + 1, c8, by rw [HV.out]; rfl, by rw [HV.out]; show (l ++ [o]).length = n + 1; rw [List.length_append, HL.out]; rfl, by rw [HV.out]; exact own_grew OW8.out g9, GEND⟩
      · have t1 : decide (0 < (n : Int)) = true := decide_eq_true (by omega)
        have t2 : decide (0 < n) = true := decide_eq_true (by omega)
        have m1 : IntKind.i64.wrap ((n : Int) - 1) = (n : Int) - 1 := IntWalk.i64_in _ (by omega)
        have m2 : ((n : Int) - 1).toNat = n - 1 := by omega
        have m3 : (0 : Int) ≤ (n : Int) - 1 := by omega
        have m3' : (1 : Int) ≤ (n : Int) := by omega
        have m4 : (n : Int) - 1 < (n : Int) := by omega
        by_cases hlo : o.k < y
        · have q3 : decide (o.k < y) = true := decide_eq_true hlo
          have HV := Lib.hid (rec_clock HVF.out (by rw [HPV.out]; exact decide_eq_false (by omega)))
          go_wp2_with fail
          refine wp_region_seq (by kernel_rfl) Grew.refl (fun _ _ _ => Grew.trans) (fun _ _ _ _ _ h => h) (by kernel_rfl) ?_
          repeat (first
            | (refine TakeAll.pure (v := ?_) (by rfl) ?_ ?_; rotate_left; (intro w' g'; obtain ⟨c0, c1, c2, c3, c4, c5, c6, c7⟩ := hC w' g'; have d4' := g'.cell d4; go_simp; first | done | with_reducible rfl); (simp only [Act.put, List.setIfInBounds_toArray, List.set_cons_zero, List.set_cons_succ]))
            | (refine TakeAll.skip (by rfl) ?_; (simp only [Act.put, List.setIfInBounds_toArray, List.set_cons_zero, List.set_cons_succ])))
          refine TakeAll.nil ?_
          intro w3 g3
          have GEND := (G02.out.drew).trans g3
          clear hC m1 m2
          go_wp2_with fail
          go_ret2
          exact ⟨none, 0, 0, by rw [HV.out]; rfl, by rw [HV.out]; rfl, by rw [HV.out]; exact World.ownsRow_nil _ _ _ _, GEND⟩
        · have q3 : decide (o.k < y) = false := decide_eq_false hlo
          have HPV' : Hid (prevB l l.length o = true) := by unfold Hid; rw [HPV.out]; exact decide_eq_true (by omega)
          go_wp2_with fail
          refine wp_region_seq (by kernel_rfl) Grew.refl (fun _ _ _ => Grew.trans) (fun _ _ _ _ _ h => h) (by kernel_rfl) ?_
          repeat (first
            | (refine TakeAll.pure (v := ?_) (by rfl) ?_ ?_; rotate_left; (intro w' g'; obtain ⟨c0, c1, c2, c3, c4, c5, c6, c7⟩ := hC w' g'; have d4' := g'.cell d4; go_simp; first | done | with_reducible rfl); (simp only [Act.put, List.setIfInBounds_toArray, List.set_cons_zero, List.set_cons_succ]))
            | (refine TakeAll.skip (by rfl) ?_; (simp only [Act.put, List.setIfInBounds_toArray, List.set_cons_zero, List.set_cons_succ])))
          refine TakeAll.nil ?_
          intro w3 g3
          clear m1 m2 m3 m3' m4 d4 HPV q3 hlo
          have HPV := HPV'
          clear HPV'
          have G03 := Lib.hid ((G02.out.drew).trans g3)
          have HR3 := Lib.hid (range_grew HRO.out g3)
          clear hC HRO HR2 g3
          go_wp2_with fail
          go_loopw [6] (fun i wr => ∃ k : Nat, k ≤ n ∧ i = .int .i64 k ∧ Hid (fitsB l k o = true) ∧ Grew w3 wr) (fun i _ => n - (intOf i).toNat)
          case atStart => exact ⟨0, Nat.zero_le _, rfl, rfl, Grew.refl _⟩
          case round =>
            obtain ⟨k, hk, rfl, HFT, hg⟩ := hrel
            have HRr := Lib.hid (range_grew HR3.out hg.drew)
            by_cases hlt : k < n
            · obtain ⟨b, q, x, hAx, hx, hr⟩ := (HH.out.1.grew ((G03.out.trans hg).drew)).at_ oe_ok hlt
              injection hAx with hAx; injection hAx with hAx hAy; subst hAx hAy
              have HX := Lib.hid hx
              have HRX := Lib.hid hr
              have j0 : (0 : Int) ≤ (k : Int) := by omega
              have j1 : (k : Int) < (n : Int) := by omega
              have hC : ∀ w', Grew wr.drew w' → (w'.cell? ⟨w.heap.size, 0, none⟩ = some (.int .i64 o.n) ∧ w'.cell? ⟨w.heap.size, 1, none⟩ = some (.string o.p) ∧ w'.cell? ⟨w.heap.size, 2, none⟩ = some (.string o.c) ∧ w'.cell? ⟨w.heap.size, 3, none⟩ = some (.int .i64 o.r) ∧ w'.cell? ⟨w.heap.size, 4, none⟩ = some (.int .i64 o.k) ∧ w'.cell? ⟨w.heap.size, 5, none⟩ = some (.int .i64 o.f) ∧ w'.cell? ⟨w.heap.size, 6, none⟩ = some (.int .i64 o.m) ∧ w'.cell? ⟨w.heap.size, 7, none⟩ = some (.bool o.fam)) ∧ w'.cell? ⟨b, q + k * 8, none⟩ = some (.int .i64 x.n) ∧ w'.cell? ⟨b, q + k * 8 + 1, none⟩ = some (.string x.p) ∧ w'.cell? ⟨b, q + k * 8 + 2, none⟩ = some (.string x.c) := fun w' g' => ⟨cells24n (range_grew HRr.out g'), range_grew HRX.out g' 0 _ rfl, range_grew HRX.out g' 1 _ rfl, range_grew HRX.out g' 2 _ rfl⟩
              clear hx hr
              by_cases e1 : x.n = o.n
              · have q1 : (x.n == o.n) = true := by rw [beq_iff_eq]; exact e1
                by_cases e2 : x.p = o.p
                · have q2 : (x.p.toList == o.p.toList) = true := by rw [str_eq]; exact decide_eq_true e2
                  by_cases e3 : x.c = o.c
                  · have q3 : (x.c.toList == o.c.toList) = true := by rw [str_eq]; exact decide_eq_true e3
                    have HFT' : Hid (fitsB l (k + 1) o = true) := fits_to HFT.out HX.out (by unfold fitB; rw [decide_eq_true e2, decide_eq_true e3]; simp)
                    clear e1 e2 e3
                    go_wp2_with fail
                    refine wp_region_seq (by kernel_rfl) Grew.refl (fun _ _ _ => Grew.trans) (fun _ _ _ _ _ h => h) (by kernel_rfl) ?_
                    repeat (first
                      | (refine TakeAll.pure (v := ?_) (by rfl) ?_ ?_; rotate_left; (intro w' g'; obtain ⟨⟨o0, o1, o2, o3, o4, o5, o6, o7⟩, x0, x1, x2⟩ := hC w' g'; go_simp; first | done | with_reducible rfl); (simp only [Act.put, List.setIfInBounds_toArray, List.set_cons_zero, List.set_cons_succ]))
                      | (refine TakeAll.skip (by rfl) ?_; (simp only [Act.put, List.setIfInBounds_toArray, List.set_cons_zero, List.set_cons_succ])))
                    refine TakeAll.nil ?_
                    intro w6 g6
                    have GEND := (hg.drew).trans g6
                    clear hC
                    go_wp2_with fail
                    go_roundw
                    case rel => exact ⟨k + 1, by omega, by go_num, HFT', GEND⟩
                    case measure => simp [intOf]; omega
                  · have q3 : (x.c.toList == o.c.toList) = false := by rw [str_eq]; exact decide_eq_false e3
                    have HV := Lib.hid (rec_order HVF.out HPV.out (fits_bad HX.out (by unfold fitB; rw [decide_eq_false e3, e1]; simp)))
                    clear e1 e2 e3
                    go_wp2_with fail
                    refine wp_region_seq (by kernel_rfl) Grew.refl (fun _ _ _ => Grew.trans) (fun _ _ _ _ _ h => h) (by kernel_rfl) ?_
                    repeat (first
                      | (refine TakeAll.pure (v := ?_) (by rfl) ?_ ?_; rotate_left; (intro w' g'; obtain ⟨⟨o0, o1, o2, o3, o4, o5, o6, o7⟩, x0, x1, x2⟩ := hC w' g'; go_simp; first | done | with_reducible rfl); (simp only [Act.put, List.setIfInBounds_toArray, List.set_cons_zero, List.set_cons_succ]))
                      | (refine TakeAll.skip (by rfl) ?_; (simp only [Act.put, List.setIfInBounds_toArray, List.set_cons_zero, List.set_cons_succ])))
                    refine TakeAll.nil ?_
                    intro w6 g6
                    have GEND := ((G03.out.trans hg).drew).trans g6
                    clear hC
                    go_wp2_with fail
                    go_ret2
                    exact ⟨none, 0, 0, by rw [HV.out]; rfl, by rw [HV.out]; rfl, by rw [HV.out]; exact World.ownsRow_nil _ _ _ _, GEND⟩
                · have q2 : (x.p.toList == o.p.toList) = false := by rw [str_eq]; exact decide_eq_false e2
                  have HV := Lib.hid (rec_order HVF.out HPV.out (fits_bad HX.out (by unfold fitB; rw [decide_eq_false e2, e1]; simp)))
                  clear e1 e2
                  go_wp2_with fail
                  refine wp_region_seq (by kernel_rfl) Grew.refl (fun _ _ _ => Grew.trans) (fun _ _ _ _ _ h => h) (by kernel_rfl) ?_
                  repeat (first
                    | (refine TakeAll.pure (v := ?_) (by rfl) ?_ ?_; rotate_left; (intro w' g'; obtain ⟨⟨o0, o1, o2, o3, o4, o5, o6, o7⟩, x0, x1, x2⟩ := hC w' g'; go_simp; first | done | with_reducible rfl); (simp only [Act.put, List.setIfInBounds_toArray, List.set_cons_zero, List.set_cons_succ]))
                    | (refine TakeAll.skip (by rfl) ?_; (simp only [Act.put, List.setIfInBounds_toArray, List.set_cons_zero, List.set_cons_succ])))
                  refine TakeAll.nil ?_
                  intro w6 g6
                  have GEND := ((G03.out.trans hg).drew).trans g6
                  clear hC
                  go_wp2_with fail
                  go_ret2
                  exact ⟨none, 0, 0, by rw [HV.out]; rfl, by rw [HV.out]; rfl, by rw [HV.out]; exact World.ownsRow_nil _ _ _ _, GEND⟩
              · have q1 : (x.n == o.n) = false := by rw [beq_eq_false_iff_ne]; exact e1
                have HFT' : Hid (fitsB l (k + 1) o = true) := fits_to HFT.out HX.out (by unfold fitB; rw [bne_iff_ne.2 e1]; rfl)
                clear e1
                go_wp2_with fail
                refine wp_region_seq (by kernel_rfl) Grew.refl (fun _ _ _ => Grew.trans) (fun _ _ _ _ _ h => h) (by kernel_rfl) ?_
                repeat (first
                  | (refine TakeAll.pure (v := ?_) (by rfl) ?_ ?_; rotate_left; (intro w' g'; obtain ⟨⟨o0, o1, o2, o3, o4, o5, o6, o7⟩, x0, x1, x2⟩ := hC w' g'; go_simp; first | done | with_reducible rfl); (simp only [Act.put, List.setIfInBounds_toArray, List.set_cons_zero, List.set_cons_succ]))
                  | (refine TakeAll.skip (by rfl) ?_; (simp only [Act.put, List.setIfInBounds_toArray, List.set_cons_zero, List.set_cons_succ])))
                refine TakeAll.nil ?_
                intro w6 g6
                have GEND := (hg.drew).trans g6
                clear hC
                go_wp2_with fail
                go_roundw
                case rel => exact ⟨k + 1, by omega, by go_num, HFT', GEND⟩
                case measure => simp [intOf]; omega
            · have HFT' : Hid (fitsB l l.length o = true) := by have := HFT.out; rwa [show k = l.length by rw [HL.out]; omega] at this
              have HFT := HFT'
              clear HFT'
              have hC : ∀ w', Grew wr.drew w' → w'.cell? ⟨w.heap.size, 0, none⟩ = some (.int .i64 o.n) ∧ w'.cell? ⟨w.heap.size, 1, none⟩ = some (.string o.p) ∧ w'.cell? ⟨w.heap.size, 2, none⟩ = some (.string o.c) ∧ w'.cell? ⟨w.heap.size, 3, none⟩ = some (.int .i64 o.r) ∧ w'.cell? ⟨w.heap.size, 4, none⟩ = some (.int .i64 o.k) ∧ w'.cell? ⟨w.heap.size, 5, none⟩ = some (.int .i64 o.f) ∧ w'.cell? ⟨w.heap.size, 6, none⟩ = some (.int .i64 o.m) ∧ w'.cell? ⟨w.heap.size, 7, none⟩ = some (.bool o.fam) := fun w' g' => cells24n (range_grew HRr.out g')
              have GW := Lib.hid ((G03.out.trans hg).drew)
              obtain ⟨vv, hvv⟩ : ∃ b, validB (l ++ [o]) = b := ⟨_, rfl⟩
              have HVV := Lib.hid hvv
              clear hvv
              go_wp2_with fail
              refine wp_region_G (G := Grew) (by kernel_rfl) Grew.refl 5 ?_
              refine wpAnyG_takes Grew.refl (fun _ _ _ => Grew.trans) (fun _ _ _ _ _ h => h) [0, 1, 3] (fuel' := 4) (by kernel_rfl) (by kernel_rfl) (by simp only [pickOps, List.getElem?_toArray, List.getElem?_cons_zero, List.getElem?_cons_succ]; rfl) ?_
              repeat (first
                | (refine TakeAll.pure (v := ?_) (by rfl) ?_ ?_; rotate_left; (intro w' g'; obtain ⟨c0, c1, c2, c3, c4, c5, c6, c7⟩ := hC w' g'; go_simp; first | done | with_reducible rfl); (simp only [Act.put, List.setIfInBounds_toArray, List.set_cons_zero, List.set_cons_succ]))
                | (refine TakeAll.skip (by rfl) ?_; (simp only [Act.put, List.setIfInBounds_toArray, List.set_cons_zero, List.set_cons_succ])))
              refine TakeAll.nil ?_
              refine wpAnyG_two (i := 2) (j := 4) (by kernel_rfl) (fuel' := 3) (by kernel_rfl) (by simp only [pickOps, List.getElem?_toArray, List.getElem?_cons_zero, List.getElem?_cons_succ]; rfl) rfl (by simp only [pickOps, List.getElem?_toArray, List.getElem?_cons_zero, List.getElem?_cons_succ]; rfl) rfl ?_ ?_
              · intro w1 g1 K hK
                obtain ⟨v4, w4, run4, own4, gr4, _⟩ := run_append_sl (P := Try.prog) w1 w.heap.size 22 22 24 i0 _ 8 80 Try.underlying22 hi hz0 hz1 hz2 rfl (by decide) _ 0 _ (World.ownsRow_nil w1 w.heap.size 24 8) _ n c (flatO l) (HH.out.1.2.grew (GW.out.trans g1)) (flat_one oe_ok _) (by unfold maxLen; omega) (by omega) (GW.out.trans g1).le
                rw [Nat.zero_add, List.nil_append] at own4
                obtain ⟨A4, c4', rfl⟩ := own_form own4
                have g4 : Grew w1 w4 := (Grew.refl w1).grown gr4 (by simp [Value.ownBlock])
                refine wp_append_run w1 (.tmp 65) (.tmp 66) 22 22 rfl rfl rfl run4 ?_
                refine hK _ _ g4 ?_
                clear hK K run4 gr4
                simp only [Act.put, List.setIfInBounds_toArray, List.set_cons_zero, List.set_cons_succ]
                refine wpAnyG_step (i := 4) (by kernel_rfl) (fuel' := 2) (by kernel_rfl) (by simp only [pickOps, List.getElem?_toArray, List.getElem?_cons_zero, List.getElem?_cons_succ]; rfl) rfl ?_
                intro w5 g5 K hK
                go_simp
                have ga := (Grew.refl w5).alloc (.cells #[.int .i64 o.n, .string o.p, .string o.c, .int .i64 o.r, .int .i64 o.k, .int .i64 o.f, .int .i64 o.m, .bool o.fam] 24)
                refine hK _ _ ga ?_
                clear hK K
                have BI := Lib.hid (Recs.built (w := w5) oe_ok (t := 24) (l := [o]) (n := 1) #[.int .i64 o.n, .string o.p, .string o.c, .int .i64 o.r, .int .i64 o.k, .int .i64 o.f, .int .i64 o.m, .bool o.fam] rfl rfl (by decide))
                obtain ⟨w6, hw6⟩ : ∃ x, x = w5.alloc (.cells #[.int .i64 o.n, .string o.p, .string o.c, .int .i64 o.r, .int .i64 o.k, .int .i64 o.f, .int .i64 o.m, .bool o.fam] 24) := ⟨_, rfl⟩
                rw [← hw6] at BI ga ⊢
                obtain ⟨z6, hz6⟩ : ∃ z, z = w5.heap.size := ⟨_, rfl⟩
                rw [← hz6] at BI ⊢
                clear hw6 hz6
                have OWC := Lib.hid (own_grew (own_grew own4 g5) ga)
                have GALL : Grew w w6 := ((((GW.out.trans g1).trans g4).trans g5).trans ga)
                have hsz := GALL.le
                clear own4 g4 g5 ga g1 hC
                refine wpAnyG_end (by kernel_rfl) (fuel' := 1) (by kernel_rfl) (by simp only [pickOps, List.getElem?_toArray, List.getElem?_cons_zero, List.getElem?_cons_succ]; rfl) rfl ?_
                intro w7 g7 K hK
                obtain ⟨v8, w8, run8, own8, gr8, _⟩ := run_append_sl (P := Try.prog) w7 w.heap.size 22 22 24 i0 _ 8 80 Try.underlying22 hi hz0 hz1 hz2 rfl (by decide) _ n _ (own_grew OWC.out g7) _ 1 1 (flatO [o]) (BI.out.2.grew g7) (flat_one oe_ok _) (by unfold maxLen; omega) (by omega) (Nat.le_trans hsz g7.le)
                obtain ⟨A8, c8, rfl⟩ := own_form own8
                refine wp_append_run w7 (.tmp 67) (.tmp 69) 22 22 rfl rfl rfl run8 ?_
                refine hK _ _ ?_
                clear hK K run8
                simp only [Act.put, List.setIfInBounds_toArray, List.set_cons_zero, List.set_cons_succ]
                have GE8 : Grew w w8 := (GALL.trans g7).grown gr8 (fun j hj => (own_grew OWC.out g7).lt j hj |>.1)
                have OW8 : Hid (w8.ownsRow w.heap.size 24 8 (.slice A8 (n + 1) c8) (n + 1) (flatO (l ++ [o]))) := by unfold Hid flatO; rw [List.flatMap_append]; exact own8
                clear own8 gr8
                refine wpAny_rest (fun _ _ _ _ _ h => h) [6] (by kernel_rfl) (by kernel_rfl) (by kernel_rfl) (by simp only [pickOps, List.getElem?_toArray, List.getElem?_cons_zero, List.getElem?_cons_succ]; rfl) ?_
                repeat (first
                  | (refine TakeAll.pure (v := ?_) (by rfl) ?_ ?_; rotate_left; (intro w' g'; go_simp; first | done | with_reducible rfl); (simp only [Act.put, List.setIfInBounds_toArray, List.set_cons_zero, List.set_cons_succ]))
                  | (refine TakeAll.skip (by rfl) ?_; (simp only [Act.put, List.setIfInBounds_toArray, List.set_cons_zero, List.set_cons_succ])))
                refine TakeAll.nil ?_
                have hO8 : Ords w8 A8 (n + 1) c8 (l ++ [o]) := ⟨Recs.own (by rw [List.length_append, HL.out]; rfl) OW8.out, WF.out⟩
                have HO8 := Lib.hid hO8
                clear hO8
                go_wp2_with fail
                refine (rvalid_val HO8.out HVV.out).mono ?_
                rintro e w9 ⟨rfl, g9⟩
                cases vv with
                | false =>
                  have HV := Lib.hid (rec_limit HVF.out HPV.out HFT.out HVV.out)
                  have GEND := GE8.trans g9
                  go_wp2_with fail
                  go_ret2
                  exact ⟨none, 0, 0, by rw [HV.out]; rfl, by rw [HV.out]; rfl, by rw [HV.out]; exact World.ownsRow_nil _ _ _ _, GEND⟩
                | true =>
                  have HV := Lib.hid (rec_ok HVF.out HPV.out HFT.out HVV.out)
                  have GEND := GE8.trans g9
                  go_wp2_with fail
                  go_ret2
                  exact ⟨A8, n + 1, c8, by rw [HV.out]; rfl, by rw [HV.out]; show (l ++ [o]).length = n + 1; rw [List.length_append, HL.out]; rfl, by rw [HV.out]; exact own_grew OW8.out g9, GEND⟩
              · intro w1 g1 K hK
                go_simp
                have ga := (Grew.refl w1).alloc (.cells #[.int .i64 o.n, .string o.p, .string o.c, .int .i64 o.r, .int .i64 o.k, .int .i64 o.f, .int .i64 o.m, .bool o.fam] 24)
                refine hK _ _ ga ?_
                clear hK K
                have BI0 := Lib.hid (Recs.built (w := w1) oe_ok (t := 24) (l := [o]) (n := 1) #[.int .i64 o.n, .string o.p, .string o.c, .int .i64 o.r, .int .i64 o.k, .int .i64 o.f, .int .i64 o.m, .bool o.fam] rfl rfl (by decide))
                obtain ⟨w5, hw5⟩ : ∃ x, x = w1.alloc (.cells #[.int .i64 o.n, .string o.p, .string o.c, .int .i64 o.r, .int .i64 o.k, .int .i64 o.f, .int .i64 o.m, .bool o.fam] 24) := ⟨_, rfl⟩
                rw [← hw5] at BI0 ga ⊢
                obtain ⟨z6, hz6⟩ : ∃ z, z = w1.heap.size := ⟨_, rfl⟩
                rw [← hz6] at BI0 ⊢
                clear hw5 hz6
                refine wpAnyG_step (i := 2) (by kernel_rfl) (fuel' := 2) (by kernel_rfl) (by simp only [pickOps, List.getElem?_toArray, List.getElem?_cons_zero, List.getElem?_cons_succ]; rfl) rfl ?_
                intro w4 g4 K hK
                have GW4 := ((GW.out.trans g1).trans ga).trans g4
                obtain ⟨v4, w6, run4, own4, gr4, _⟩ := run_append_sl (P := Try.prog) w4 w.heap.size 22 22 24 i0 _ 8 80 Try.underlying22 hi hz0 hz1 hz2 rfl (by decide) _ 0 _ (World.ownsRow_nil w4 w.heap.size 24 8) _ n c (flatO l) (HH.out.1.2.grew GW4) (flat_one oe_ok _) (by unfold maxLen; omega) (by omega) GW4.le
                rw [Nat.zero_add, List.nil_append] at own4
                obtain ⟨A4, c4', rfl⟩ := own_form own4
                have g6 : Grew w4 w6 := (Grew.refl w4).grown gr4 (by simp [Value.ownBlock])
                refine wp_append_run w4 (.tmp 65) (.tmp 66) 22 22 rfl rfl rfl run4 ?_
                refine hK _ _ g6 ?_
                clear hK K run4 gr4
                simp only [Act.put, List.setIfInBounds_toArray, List.set_cons_zero, List.set_cons_succ]
                have OWC := Lib.hid own4
                have BI := Lib.hid (BI0.out.grew (g4.trans g6))
                have GALL : Grew w w6 := GW4.trans g6
                have hsz := GALL.le
                clear own4 g4 g6 ga g1 hC BI0 GW4
                refine wpAnyG_end (by kernel_rfl) (fuel' := 1) (by kernel_rfl) (by simp only [pickOps, List.getElem?_toArray, List.getElem?_cons_zero, List.getElem?_cons_succ]; rfl) rfl ?_
                intro w7 g7 K hK
                obtain ⟨v8, w8, run8, own8, gr8, _⟩ := run_append_sl (P := Try.prog) w7 w.heap.size 22 22 24 i0 _ 8 80 Try.underlying22 hi hz0 hz1 hz2 rfl (by decide) _ n _ (own_grew OWC.out g7) _ 1 1 (flatO [o]) (BI.out.2.grew g7) (flat_one oe_ok _) (by unfold maxLen; omega) (by omega) (Nat.le_trans hsz g7.le)
                obtain ⟨A8, c8, rfl⟩ := own_form own8
                refine wp_append_run w7 (.tmp 67) (.tmp 69) 22 22 rfl rfl rfl run8 ?_
                refine hK _ _ ?_
                clear hK K run8
                simp only [Act.put, List.setIfInBounds_toArray, List.set_cons_zero, List.set_cons_succ]
                have GE8 : Grew w w8 := (GALL.trans g7).grown gr8 (fun j hj => (own_grew OWC.out g7).lt j hj |>.1)
                have OW8 : Hid (w8.ownsRow w.heap.size 24 8 (.slice A8 (n + 1) c8) (n + 1) (flatO (l ++ [o]))) := by unfold Hid flatO; rw [List.flatMap_append]; exact own8
                clear own8 gr8
                refine wpAny_rest (fun _ _ _ _ _ h => h) [6] (by kernel_rfl) (by kernel_rfl) (by kernel_rfl) (by simp only [pickOps, List.getElem?_toArray, List.getElem?_cons_zero, List.getElem?_cons_succ]; rfl) ?_
                repeat (first
                  | (refine TakeAll.pure (v := ?_) (by rfl) ?_ ?_; rotate_left; (intro w' g'; go_simp; first | done | with_reducible rfl); (simp only [Act.put, List.setIfInBounds_toArray, List.set_cons_zero, List.set_cons_succ]))
                  | (refine TakeAll.skip (by rfl) ?_; (simp only [Act.put, List.setIfInBounds_toArray, List.set_cons_zero, List.set_cons_succ])))
                refine TakeAll.nil ?_
                have hO8 : Ords w8 A8 (n + 1) c8 (l ++ [o]) := ⟨Recs.own (by rw [List.length_append, HL.out]; rfl) OW8.out, WF.out⟩
                have HO8 := Lib.hid hO8
                clear hO8
                go_wp2_with fail
                refine (rvalid_val HO8.out HVV.out).mono ?_
                rintro e w9 ⟨rfl, g9⟩
                cases vv with
                | false =>
                  have HV := Lib.hid (rec_limit HVF.out HPV.out HFT.out HVV.out)
                  have GEND := GE8.trans g9
                  go_wp2_with fail
                  go_ret2
                  exact ⟨none, 0, 0, by rw [HV.out]; rfl, by rw [HV.out]; rfl, by rw [HV.out]; exact World.ownsRow_nil _ _ _ _, GEND⟩
                | true =>
                  have HV := Lib.hid (rec_ok HVF.out HPV.out HFT.out HVV.out)
                  have GEND := GE8.trans g9
                  go_wp2_with fail
                  go_ret2
                  exact ⟨A8, n + 1, c8, by rw [HV.out]; rfl, by rw [HV.out]; show (l ++ [o]).length = n + 1; rw [List.length_append, HL.out]; rfl, by rw [HV.out]; exact own_grew OW8.out g9, GEND⟩
theorem rrecord_val {A : Option Addr} {n c : Nat} {l r : List Ord} {o : Ord} {z : Int} {w : World} (h : Ords w A n c l) (hn : n ≤ 410) (ho : Wf [o]) (hr : recL l o = (r, z)) : Calls Try.prog 13 #[.slice A n c, ov o] w (RetF r z w) := by
  have := rrecord_any A n c l o w h hn ho
  rw [hr] at this
  exact this
end Go.Proofs.Ytjpnodmcglcihaa
