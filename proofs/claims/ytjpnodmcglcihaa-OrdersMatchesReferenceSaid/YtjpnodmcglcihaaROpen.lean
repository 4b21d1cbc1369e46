/-
  The reference's Open.
-/
import Derived.Test.YtjpnodmcglcihaaROpP
import Derived.Test.YtjpnodmcglcihaaOpenO
namespace Go.Proofs.Ytjpnodmcglcihaa
open Go.RowKit Go.Proofs WageMem WageOrd WageRec WageMap WageReg

set_option maxRecDepth 100000 in
set_option maxHeartbeats 16000000 in
theorem ropen_any (A : Option Addr) (n c : Nat) (l : List Ord) (p : ByteArray) (mo kn : Int) (w : World) (h : Ords w A n c l) (hn : n ≤ 410) :
    Calls Try.prog 18 #[.slice A n c, .string p, .int .i64 mo, .int .i64 kn] w (RetA (openL l p mo kn) w) := by
  have HH := Lib.hid h
  have HL := Lib.hid h.1.1
  obtain ⟨vl, hvl⟩ : ∃ b, validB l = b := ⟨_, rfl⟩
  have HVL := Lib.hid hvl
  clear h hvl
  go_enter Try.func18, Try.ntmps18
  go_wp2_with fail
  refine (rvalid_val HH.out HVL.out).mono ?_
  rintro e w1 ⟨rfl, g1⟩
  cases vl with
  | false =>
    have HV := Lib.hid (openL_not (p := p) (month := mo) (kn := kn) HVL.out)
    go_wp2_with fail
    go_ret
    exact ⟨none, 0, 0, rfl, by rw [HV.out]; exact ⟨Recs.none_, fun x hx => by simp at hx⟩, g1⟩
  | true =>
    go_wp2_with fail
    go_loopw [9, 10] (fun v i y => ∃ (k : Nat) (E : List Ord) (B : Option Addr) (m cb : Nat), k ≤ n ∧ i = .int .i64 k ∧ v = .slice B m cb ∧ Hid (Ords y B m cb E) ∧ Hid (OpI l p mo kn k E) ∧ Grew w y) (fun _ i _ => n - (intOf i).toNat)
    case atStart => exact ⟨0, [], none, 0, 0, Nat.zero_le _, rfl, rfl, ⟨Recs.none_, fun x hx => by simp at hx⟩, opI_zero, g1⟩
    case round =>
      clear g1
      obtain ⟨wo, rfl⟩ : ∃ wo : World, wo = wr := ⟨_, rfl⟩
      obtain ⟨k, E, B, m, cb, hk, rfl, rfl, HO, HI, hg⟩ := hrel
      by_cases hlt : k < n
      · obtain ⟨b, o, x, rfl, hx, hr⟩ := (HH.out.1.grew hg).at_ oe_ok hlt
        have HX := Lib.hid hx
        have WX := Lib.hid (HH.out.2 x (List.mem_of_getElem? hx))
        have i0' : (0 : Int) ≤ (k : Int) := by omega
        have i1' : (k : Int) < (n : Int) := by omega
        obtain ⟨c0, c1, c2, c3, c4, c5, c6, c7⟩ := cells24 hr
        obtain ⟨wa, hwa⟩ : ∃ y, y = wo.alloc (.cells #[.int .i64 x.n, .string x.p, .string x.c, .int .i64 x.r, .int .i64 x.k, .int .i64 x.f, .int .i64 x.m, .bool x.fam] 24) := ⟨_, rfl⟩
        have ga : Grew wo wa := by rw [hwa]; exact (Grew.refl wo).alloc _
        have HRA : Hid (wa.rangeAt wo.heap.size 0 (oe x)) := by rw [hwa]; exact range_new wo (oe x) 24
        obtain ⟨x0, x1, x2, x3, x4, x5, x6, x7⟩ := cells24n HRA.out
        clear hx hr
        by_cases hxp : x.p = p
        · have qp : (x.p.toList == p.toList) = true := by rw [str_eq]; exact decide_eq_true hxp
          have qp' : (x.p.toList != p.toList) = false := by unfold bne; rw [qp]; rfl
          by_cases hxk : x.k ≤ kn
          · have qk : decide (kn < x.k) = false := decide_eq_false (by omega)
            by_cases hxf : x.f ≤ mo
            · have qf : decide (mo < x.f) = false := decide_eq_false (by omega)
              by_cases hxm : x.m = 0
              · have qm : (x.m == 0) = true := by rw [beq_iff_eq]; exact hxm
                have HI2 := Lib.hid (opI_skip HI.out HX.out (fun h => by have := h.2.2.1; unfold opB at this; rw [hxm] at this; simp at this))
                clear hxp hxk hxf hxm
                have gE : Grew w wa := hg.trans ga
                have HO2 := Lib.hid (HO.out.grew ga)
                go_upto_region 8 with (fail)
                rw [← hwa]
                clear hwa c0 c1 c2 c3 c4 c5 c6 c7
                go_wp2_with fail
                go_roundw
                case rel => exact ⟨k + 1, E, B, m, cb, by omega, by go_num, rfl, HO2, HI2, gE⟩
                case measure => simp [intOf]; omega
              · have qm : (x.m == 0) = false := by rw [beq_eq_false_iff_ne]; exact hxm
                have HOP : Hid (opB mo x = true) := by unfold Hid opB; rw [decide_eq_true hxf, bne_iff_ne.2 hxm]; rfl
                have HXP := Lib.hid hxp
                have HXK := Lib.hid hxk
                clear hxf hxm hxp hxk
                go_upto_region 8 with (fail)
                rw [← hwa]
                clear hwa c0 c1 c2 c3 c4 c5 c6 c7
                go_wp2_with fail
                clear x1 x2 x3 x4 x5 x6 x7 qp qp' qk qf qm
                go_loopw [12, 13] (fun f j y => ∃ (q : Nat) (t : Bool), k < q ∧ q ≤ n ∧ j = .int .i64 q ∧ f = .bool t ∧ Hid (t = noneIn l x.n k q) ∧ Hid (∀ m y, k < m → m < q → l[m]? = some y → y.k ≤ kn) ∧ Grew wa y) (fun _ j _ => n - (intOf j).toNat)
                case atStart => exact ⟨k + 1, true, by omega, by omega, by go_num, rfl, (noneIn_start l x.n k (k + 1) (by omega)).symm, fun m y h1 h2 => absurd h1 (by omega), Grew.refl _⟩
                case round =>
                  obtain ⟨wi, rfl⟩ : ∃ wi : World, wi = wr := ⟨_, rfl⟩
                  obtain ⟨q, t, hkq, hq, rfl, rfl, HN, HK, hgi⟩ := hrel
                  by_cases hqn : q < n
                  · obtain ⟨b', o', y, ey, hy, hry⟩ := (HH.out.1.grew ((hg.trans ga).trans hgi)).at_ oe_ok hqn
                    injection ey with ey
                    injection ey with ey ey2
                    subst ey ey2
                    have HY := Lib.hid hy
                    have HRY := Lib.hid hry
                    have j0 : (0 : Int) ≤ (q : Int) := by omega
                    have j1 : (q : Int) < (n : Int) := by omega
                    have j2 : decide (q < n) = true := decide_eq_true hqn
                    have j3 : decide ((q : Int) < (n : Int)) = true := decide_eq_true (by omega)
                    have y4 := range_at hry 4 rfl
                    clear hy hry
                    by_cases hyk : y.k ≤ kn
                    · have qy : decide (y.k ≤ kn) = true := decide_eq_true hyk
                      have HK2 : Hid (∀ m z, k < m → m < q + 1 → l[m]? = some z → z.k ≤ kn) := fun m z h1 h2 h3 => by
                        rcases Nat.lt_succ_iff_lt_or_eq.1 h2 with h4 | rfl
                        · exact HK.out m z h1 h4 h3
                        · rw [HY.out] at h3; injection h3 with h3; subst h3; exact hyk
                      have hC : ∀ w', Grew wi.drew w' → w'.cell? ⟨wo.heap.size, 0, none⟩ = some (.int .i64 x.n) ∧ w'.cell? ⟨b, o + q * 8, none⟩ = some (.int .i64 y.n) := fun w' g' => ⟨range_grew HRA.out ((hgi.drew).trans g') 0 _ rfl, range_grew HRY.out ((Grew.refl wi).drew.trans g') 0 _ rfl⟩
                      obtain ⟨s, hs⟩ : ∃ s, (y.n != x.n) = s := ⟨_, rfl⟩
                      have HN2 : Hid ((t && s) = noneIn l x.n k (q + 1)) := by unfold Hid; rw [noneIn_succ HY.out hkq, hs, ← HN.out]
                      clear hyk
                      cases t with
                      | true =>
                        go_wp2_with fail
                        refine wp_region_seq (by kernel_rfl) Grew.refl (fun _ _ _ => Grew.trans) (fun _ _ _ _ _ h => h) (by kernel_rfl) ?_
                        repeat (first
                          | (refine TakeAll.pure (v := ?_) (by rfl) ?_ ?_; rotate_left; (intro w' g'; obtain ⟨c0, d0⟩ := hC w' g'; go_simp; first | done | with_reducible rfl); (simp only [Act.put, List.setIfInBounds_toArray, List.set_cons_zero, List.set_cons_succ]))
                          | (refine TakeAll.skip (by rfl) ?_; (simp only [Act.put, List.setIfInBounds_toArray, List.set_cons_zero, List.set_cons_succ])))
                        refine TakeAll.nil ?_
                        intro w6 g6
                        have gE := (hgi.drew).trans g6
                        clear hC y4
                        go_wp2_with fail
                        go_roundw
                        case rel => exact ⟨q + 1, s, by omega, by omega, by go_num, by first | rfl | rw [hs], HN2, HK2, gE⟩
                        case measure => simp [intOf]; omega
                      | false =>
                        go_wp2_with fail
                        refine wp_region_seq (by kernel_rfl) Grew.refl (fun _ _ _ => Grew.trans) (fun _ _ _ _ _ h => h) (by kernel_rfl) ?_
                        repeat (first
                          | (refine TakeAll.pure (v := ?_) (by rfl) ?_ ?_; rotate_left; (intro w' g'; obtain ⟨c0, d0⟩ := hC w' g'; go_simp; first | done | with_reducible rfl); (simp only [Act.put, List.setIfInBounds_toArray, List.set_cons_zero, List.set_cons_succ]))
                          | (refine TakeAll.skip (by rfl) ?_; (simp only [Act.put, List.setIfInBounds_toArray, List.set_cons_zero, List.set_cons_succ])))
                        refine TakeAll.nil ?_
                        intro w6 g6
                        have gE := (hgi.drew).trans g6
                        clear hC y4
                        go_wp2_with fail
                        go_roundw
                        case rel => exact ⟨q + 1, false, by omega, by omega, by go_num, rfl, HN2, HK2, gE⟩
                        case measure => simp [intOf]; omega
                    · have qy : decide (y.k ≤ kn) = false := decide_eq_false hyk
                      have LT : Hid (t = true ↔ NoLater l kn k x) := by
                        unfold Hid; rw [HN.out]
                        exact later_iff HVL.out HK.out (fun z hz => by rw [HY.out] at hz; injection hz with hz; subst hz; omega)
                      clear hyk
                      clear HN
                      cases t with
                      | false =>
                        have HI2 := Lib.hid (opI_skip HI.out HX.out (fun h => by have := LT.out.2 h.2.2.2; cases this))
                        have gE : Grew w wi := (hg.trans ga).trans hgi
                        have HO2 := Lib.hid (HO.out.grew (ga.trans hgi))
                        go_wp2_with fail
                        go_roundw
                        case rel => exact ⟨k + 1, E, B, m, cb, by omega, by go_num, rfl, HO2, HI2, gE⟩
                        case measure => simp [intOf]; omega
                      | true =>
                        have HI2 := Lib.hid (opI_take HI.out HX.out HXP.out HXK.out HOP.out (LT.out.1 rfl))
                        have hmk := HI.out.1
                        rw [HO.out.1.1] at hmk
                        have HRX := Lib.hid (range_grew HRA.out hgi)
                        have HOB := Lib.hid (HO.out.grew (ga.trans hgi))
                        have G0 := Lib.hid ((hg.trans ga).trans hgi)
                        obtain ⟨wj, rfl⟩ : ∃ wj : World, wj = wi := ⟨_, rfl⟩
                        clear LT HI HO hg ga hgi HXP HXK HOP HRA
                        go_wp2_with fail
                        go_loopw [14] (fun v y => ∃ q : Nat, q ≤ m ∧ v = .int .i64 q ∧ Hid (∀ j z, j < q → E[j]? = some z → ltB z x = true) ∧ Hid (Grew wj y)) (fun v _ => m - (intOf v).toNat)
                        case atStart => exact ⟨0, Nat.zero_le _, rfl, fun j z hj => absurd hj (by omega), Grew.refl _⟩
                        case round =>
                          obtain ⟨wl, rfl⟩ : ∃ wl : World, wl = wr := ⟨_, rfl⟩
                          obtain ⟨q, hq, rfl, HAT, GI⟩ := hrel
                          by_cases hqm' : q < m
                          · obtain ⟨b2, o2, z, eB, hz, hrz⟩ := (HOB.out.1.grew GI.out.drew).at_ oe_ok hqm'
                            have HZ := Lib.hid hz
                            have HRZ := Lib.hid hrz
                            have i0 : (0 : Int) ≤ (q : Int) := by omega
                            have i1 : (q : Int) < (m : Int) := by omega
                            have j2 : decide (q < m) = true := decide_eq_true hqm'
                            have j3 : decide ((q : Int) < (m : Int)) = true := decide_eq_true (by omega)
                            clear hz hrz
                            subst eB
                            have hC2 : ∀ w', Grew wl.drew w' → (w'.cell? ⟨wo.heap.size, 0, none⟩ = some (.int .i64 x.n) ∧ w'.cell? ⟨wo.heap.size, 1, none⟩ = some (.string x.p) ∧ w'.cell? ⟨wo.heap.size, 2, none⟩ = some (.string x.c) ∧ w'.cell? ⟨wo.heap.size, 3, none⟩ = some (.int .i64 x.r) ∧ w'.cell? ⟨wo.heap.size, 4, none⟩ = some (.int .i64 x.k) ∧ w'.cell? ⟨wo.heap.size, 5, none⟩ = some (.int .i64 x.f) ∧ w'.cell? ⟨wo.heap.size, 6, none⟩ = some (.int .i64 x.m) ∧ w'.cell? ⟨wo.heap.size, 7, none⟩ = some (.bool x.fam)) ∧ w'.cell? ⟨b2, o2 + q * 8, none⟩ = some (.int .i64 z.n) ∧ w'.cell? ⟨b2, o2 + q * 8 + 1, none⟩ = some (.string z.p) ∧ w'.cell? ⟨b2, o2 + q * 8 + 2, none⟩ = some (.string z.c) ∧ w'.cell? ⟨b2, o2 + q * 8 + 3, none⟩ = some (.int .i64 z.r) ∧ w'.cell? ⟨b2, o2 + q * 8 + 4, none⟩ = some (.int .i64 z.k) ∧ w'.cell? ⟨b2, o2 + q * 8 + 5, none⟩ = some (.int .i64 z.f) ∧ w'.cell? ⟨b2, o2 + q * 8 + 6, none⟩ = some (.int .i64 z.m) ∧ w'.cell? ⟨b2, o2 + q * 8 + 7, none⟩ = some (.bool z.fam) := fun w' g' => ⟨cells24n (range_grew HRX.out (GI.out.drew.trans g')), cells24 (range_grew HRZ.out g')⟩
                            cases hlz : ltB z x with
                            | true =>
                              have HLZ := Lib.hid hlz
                              have HAT2 : Hid (∀ j y, j < q + 1 → E[j]? = some y → ltB y x = true) := fun j y hj hy => by
                                rcases Nat.lt_succ_iff_lt_or_eq.1 hj with h4 | rfl
                                · exact HAT.out j y h4 hy
                                · rw [HZ.out] at hy; injection hy with hy; subst hy; exact HLZ.out
                              clear hlz
                              go_wp2_with fail
                              refine wp_region_seq (by kernel_rfl) Grew.refl (fun _ _ _ => Grew.trans) (fun _ _ _ _ _ h => h) (by kernel_rfl) ?_
                              repeat (first
                                | (refine TakeAll.pure (v := ?_) (by rfl) ?_ ?_; rotate_left; (intro w' g'; obtain ⟨⟨c0, c1, c2, c3, c4, c5, c6, c7⟩, d0, d1, d2, d3, d4, d5, d6, d7⟩ := hC2 w' g'; go_simp; first | done | with_reducible rfl); (simp only [Act.put, List.setIfInBounds_toArray, List.set_cons_zero, List.set_cons_succ]))
                                | (refine TakeAll.skip (by rfl) ?_; (simp only [Act.put, List.setIfInBounds_toArray, List.set_cons_zero, List.set_cons_succ])))
                              refine TakeAll.call (by rfl) 29 _ (fun _ => by go_simp; first | done | rfl) (fun w' g' => before_any z x _ HLZ.out w') ?_
                              simp only [Act.put, List.setIfInBounds_toArray, List.set_cons_zero, List.set_cons_succ]
                              repeat (first
                                | (refine TakeAll.pure (v := ?_) (by rfl) ?_ ?_; rotate_left; (intro w' g'; go_simp; first | done | with_reducible rfl); (simp only [Act.put, List.setIfInBounds_toArray, List.set_cons_zero, List.set_cons_succ]))
                                | (refine TakeAll.skip (by rfl) ?_; (simp only [Act.put, List.setIfInBounds_toArray, List.set_cons_zero, List.set_cons_succ])))
                              refine TakeAll.nil ?_
                              intro w6 g6
                              have GI2 := Lib.hid (GI.out.drew.trans g6)
                              clear hC2
                              go_wp2_with fail
                              go_roundw
                              case rel => exact ⟨q + 1, by omega, by go_num, HAT2, GI2⟩
                              case measure => simp [intOf]; omega
                            | false =>
                              have HLZ := Lib.hid hlz
                              have HST : Hid (∀ y, E[q]? = some y → ltB y x = false) := fun y hy => by rw [HZ.out] at hy; injection hy with hy; subst hy; exact HLZ.out
                              clear hlz
                              go_wp2_with fail
                              refine wp_region_seq (by kernel_rfl) Grew.refl (fun _ _ _ => Grew.trans) (fun _ _ _ _ _ h => h) (by kernel_rfl) ?_
                              repeat (first
                                | (refine TakeAll.pure (v := ?_) (by rfl) ?_ ?_; rotate_left; (intro w' g'; obtain ⟨⟨c0, c1, c2, c3, c4, c5, c6, c7⟩, d0, d1, d2, d3, d4, d5, d6, d7⟩ := hC2 w' g'; go_simp; first | done | with_reducible rfl); (simp only [Act.put, List.setIfInBounds_toArray, List.set_cons_zero, List.set_cons_succ]))
                                | (refine TakeAll.skip (by rfl) ?_; (simp only [Act.put, List.setIfInBounds_toArray, List.set_cons_zero, List.set_cons_succ])))
                              refine TakeAll.call (by rfl) 29 _ (fun _ => by go_simp; first | done | rfl) (fun w' g' => before_any z x _ HLZ.out w') ?_
                              simp only [Act.put, List.setIfInBounds_toArray, List.set_cons_zero, List.set_cons_succ]
                              repeat (first
                                | (refine TakeAll.pure (v := ?_) (by rfl) ?_ ?_; rotate_left; (intro w' g'; go_simp; first | done | with_reducible rfl); (simp only [Act.put, List.setIfInBounds_toArray, List.set_cons_zero, List.set_cons_succ]))
                                | (refine TakeAll.skip (by rfl) ?_; (simp only [Act.put, List.setIfInBounds_toArray, List.set_cons_zero, List.set_cons_succ])))
                              refine TakeAll.nil ?_
                              intro w6 g6
                              have GI2 := Lib.hid (GI.out.drew.trans g6)
                              clear hC2 GI i0 i1 j2 j3 g6
                              have GI := GI2
                              clear GI2
                              obtain ⟨B, hB⟩ : ∃ B, B = some (⟨b2, o2, none⟩ : Addr) := ⟨_, rfl⟩
                              rw [← hB] at HOB ⊢
                              clear hB
                              obtain ⟨wl, rfl⟩ : ∃ wl : World, wl = w6 := ⟨_, rfl⟩
                              obtain ⟨i0, hi, hz0, hz1, hz2⟩ := info_parts info24
                              have hcap := HOB.out.1.cap
                              have r1 : ∀ y, (Instr.slice 22 (.slice B m cb) none (some (.int .i64 (q : Int))) none).run Try.prog y = .ok (.slice B q cb) y := fun y => run_slice_head y 22 8 elem22 (size22 y) B m cb q .i64 (by omega)
                              have hC : ∀ w', Grew wl.drew w' → w'.cell? ⟨wo.heap.size, 0, none⟩ = some (.int .i64 x.n) ∧ w'.cell? ⟨wo.heap.size, 1, none⟩ = some (.string x.p) ∧ w'.cell? ⟨wo.heap.size, 2, none⟩ = some (.string x.c) ∧ w'.cell? ⟨wo.heap.size, 3, none⟩ = some (.int .i64 x.r) ∧ w'.cell? ⟨wo.heap.size, 4, none⟩ = some (.int .i64 x.k) ∧ w'.cell? ⟨wo.heap.size, 5, none⟩ = some (.int .i64 x.f) ∧ w'.cell? ⟨wo.heap.size, 6, none⟩ = some (.int .i64 x.m) ∧ w'.cell? ⟨wo.heap.size, 7, none⟩ = some (.bool x.fam) := fun w' g' => cells24n (range_grew HRX.out (GI.out.drew.trans g'))
                              have GW := Lib.hid ((G0.out.trans GI.out).drew)
                              have HOW := Lib.hid (HOB.out.grew (GI.out.drew))
                              go_wp2_with fail
                              refine wp_region_G (G := Grew) (by kernel_rfl) Grew.refl 7 ?_
                              refine wpAnyG_takes Grew.refl (fun _ _ _ => Grew.trans) (fun _ _ _ _ _ h => h) [0, 1, 2, 3, 5] (fuel' := 4) (by kernel_rfl) (by kernel_rfl) (by simp only [pickOps, List.getElem?_toArray, List.getElem?_cons_zero, List.getElem?_cons_succ]; rfl) ?_
                              repeat (first
                                | (refine TakeAll.pure (v := ?_) (by rfl) ?_ ?_; rotate_left; (intro w' g'; obtain ⟨c0, c1, c2, c3, c4, c5, c6, c7⟩ := hC w' g'; go_simp; first | done | with_reducible rfl); (simp only [Act.put, List.setIfInBounds_toArray, List.set_cons_zero, List.set_cons_succ]))
                                | (refine TakeAll.skip (by rfl) ?_; (simp only [Act.put, List.setIfInBounds_toArray, List.set_cons_zero, List.set_cons_succ])))
                              refine TakeAll.nil ?_
                              have hlw := GW.out.le
                              refine wpAnyG_two (i := 4) (j := 6) (by kernel_rfl) (fuel' := 3) (by kernel_rfl) (by simp only [pickOps, List.getElem?_toArray, List.getElem?_cons_zero, List.getElem?_cons_succ]; rfl) rfl (by simp only [pickOps, List.getElem?_toArray, List.getElem?_cons_zero, List.getElem?_cons_succ]; rfl) rfl ?_ ?_
                              · intro w1 g1 K hK
                                obtain ⟨v4, w4, run4, own4, gr4, _⟩ := run_append_sl (P := Try.prog) w1 w1.heap.size 22 22 24 i0 _ 8 80 Try.underlying22 hi hz0 hz1 hz2 rfl (by decide) _ 0 _ (World.ownsRow_nil w1 w1.heap.size 24 8) _ q cb (flatO (E.take q)) (((HOW.out.grew g1).1.head oe_ok (by omega) (by omega) (Nat.le_refl _)).2) (flat_one oe_ok _) (by unfold maxLen; omega) (by omega) (Nat.le_refl _)
                                rw [Nat.zero_add, List.nil_append] at own4
                                obtain ⟨A4, c4', rfl⟩ := own_form own4
                                have g4 : Grew w1 w4 := (Grew.refl w1).grown gr4 (by simp [Value.ownBlock])
                                refine wp_append_run w1 (.tmp 94) (.tmp 97) 22 22 rfl rfl rfl run4 ?_
                                refine hK _ _ g4 ?_
                                clear hK K run4 gr4
                                simp only [Act.put, List.setIfInBounds_toArray, List.set_cons_zero, List.set_cons_succ]
                                refine wpAnyG_step (i := 6) (by kernel_rfl) (fuel' := 2) (by kernel_rfl) (by simp only [pickOps, List.getElem?_toArray, List.getElem?_cons_zero, List.getElem?_cons_succ]; rfl) rfl ?_
                                intro w5 g5 K hK
                                go_simp
                                have ga := (Grew.refl w5).alloc (.cells #[.int .i64 x.n, .string x.p, .string x.c, .int .i64 x.r, .int .i64 x.k, .int .i64 x.f, .int .i64 x.m, .bool x.fam] 24)
                                refine hK _ _ ga ?_
                                clear hK K
                                have BI := Lib.hid (Recs.built (w := w5) oe_ok (t := 24) (l := [x]) (n := 1) #[.int .i64 x.n, .string x.p, .string x.c, .int .i64 x.r, .int .i64 x.k, .int .i64 x.f, .int .i64 x.m, .bool x.fam] rfl rfl (by decide))
                                obtain ⟨w6, hw6⟩ : ∃ y, y = w5.alloc (.cells #[.int .i64 x.n, .string x.p, .string x.c, .int .i64 x.r, .int .i64 x.k, .int .i64 x.f, .int .i64 x.m, .bool x.fam] 24) := ⟨_, rfl⟩
                                rw [← hw6] at BI ga ⊢
                                obtain ⟨z6, hz6⟩ : ∃ z, z = w5.heap.size := ⟨_, rfl⟩
                                rw [← hz6] at BI ⊢
                                clear hw6 hz6
                                have OWC := Lib.hid (own_grew (own_grew own4 g5) ga)
                                have G16 : Grew w1 w6 := (g4.trans g5).trans ga
                                have GALL : Grew w w6 := (GW.out.trans g1).trans G16
                                have HO6 := Lib.hid (HOW.out.grew (g1.trans G16))
                                have hsz := G16.le
                                clear own4 g4 g5 ga hC
                                refine wpAnyG_end (by kernel_rfl) (fuel' := 1) (by kernel_rfl) (by simp only [pickOps, List.getElem?_toArray, List.getElem?_cons_zero, List.getElem?_cons_succ]; rfl) rfl ?_
                                intro w7 g7 K hK
                                obtain ⟨v8, w8, run8, own8, gr8, _⟩ := run_append_sl (P := Try.prog) w7 w1.heap.size 22 22 24 i0 _ 8 80 Try.underlying22 hi hz0 hz1 hz2 rfl (by decide) _ q _ (own_grew OWC.out g7) _ 1 1 (flatO [x]) (BI.out.2.grew g7) (flat_one oe_ok _) (by unfold maxLen; omega) (by omega) (Nat.le_trans hsz g7.le)
                                obtain ⟨A8, c8, rfl⟩ := own_form own8
                                refine wp_append_run w7 (.tmp 98) (.tmp 100) 22 22 rfl rfl rfl run8 ?_
                                refine hK _ _ ?_
                                clear hK K run8
                                simp only [Act.put, List.setIfInBounds_toArray, List.set_cons_zero, List.set_cons_succ]
                                have GE8 : Grew w w8 := (GALL.trans g7).grown gr8 (fun j hj => Nat.le_trans (GW.out.trans g1).le ((own_grew OWC.out g7).lt j hj).1)
                                have g18 : Grew w1 w8 := (G16.trans g7).grown gr8 (fun j hj => ((own_grew OWC.out g7).lt j hj).1)
                                have HO8 : Hid (Ords w8 B m cb E) := Lib.hid (HOW.out.grew (g1.trans g18))
                                have OW8 : Hid (w8.ownsRow w1.heap.size 24 8 (.slice A8 (q + 1) c8) (q + 1) (flatO (E.take q ++ [x]))) := by unfold Hid flatO; rw [List.flatMap_append]; exact own8
                                clear own8 gr8
                                refine wpAny_rest (fun _ _ _ _ _ h => h) [8] (by kernel_rfl) (by kernel_rfl) (by kernel_rfl) (by simp only [pickOps, List.getElem?_toArray, List.getElem?_cons_zero, List.getElem?_cons_succ]; rfl) ?_
                                repeat (first
                                  | (refine TakeAll.pure (v := ?_) (by rfl) ?_ ?_; rotate_left; (intro w' g'; go_simp; first | done | with_reducible rfl); (simp only [Act.put, List.setIfInBounds_toArray, List.set_cons_zero, List.set_cons_succ]))
                                  | (refine TakeAll.skip (by rfl) ?_; (simp only [Act.put, List.setIfInBounds_toArray, List.set_cons_zero, List.set_cons_succ])))
                                refine TakeAll.nil ?_
                                have r2 : ∀ y, (Instr.slice 22 (.slice B m cb) (some (.int .i64 (q : Int))) none none).run Try.prog y = .ok (.slice (tailA B cb q 8) (m - q) (cb - q)) y := fun y => run_slice_tail y 22 8 elem22 (size22 y) B m cb q .i64 (by omega)
                                have hle8 := g18.le
                                go_wp2_with (at_builtin; refine wpList_append_sl _ rfl (.tmp 102) (.tmp 105) 22 rfl w1.heap.size 24 i0 _ 8 80 Try.underlying22 hi hz0 hz1 hz2 rfl (by decide) (.slice A8 (q + 1) c8) (q + 1) _ rfl OW8.out (tailA B cb q 8) (m - q) (cb - q) _ rfl (HO8.out.1.tail oe_ok (by omega)).2 (flat_one oe_ok _) (by unfold maxLen; omega) (by omega) (by omega) ?_; intro v9 w9 own9 gr9 hat9; obtain ⟨A9, c9, rfl⟩ := own_form own9)
                                have EQ9 : Hid (insO x E = E.take q ++ [x] ++ E.drop q) := by unfold Hid; rw [List.append_assoc]; exact (insO_at HAT.out HST.out).symm
                                have hqm : q + 1 + (m - q) = m + 1 := by omega
                                rw [hqm] at own9
                                have HO9 : Hid (Ords w9 A9 (m + 1) c9 (insO x E)) := by
                                  refine ⟨Recs.own (by rw [(insO_perm x E).length_eq, List.length_cons, HO8.out.1.1]) (base := w1.heap.size) (e := 24) ?_, fun y hy => ?_⟩
                                  · rw [EQ9.out, List.flatMap_append]; exact own9
                                  · rcases List.mem_cons.1 ((insO_perm x E).mem_iff.1 hy) with rfl | hy
                                    · exact WX.out
                                    · exact HO8.out.2 y hy
                                have gE : Grew w w9 := GE8.grown gr9 (fun j hj => Nat.le_trans (GW.out.trans g1).le (OW8.out.lt j hj).1)
                                rw [hqm]
                                clear own9 gr9 hat9 r2
                                go_wp2_with fail
                                go_roundw
                                case rel => exact ⟨k + 1, insO x E, A9, m + 1, c9, by omega, by go_num, rfl, HO9, HI2, gE⟩
                                case measure => simp [intOf]; omega
                              · intro w1 g1 K hK
                                go_simp
                                have ga := (Grew.refl w1).alloc (.cells #[.int .i64 x.n, .string x.p, .string x.c, .int .i64 x.r, .int .i64 x.k, .int .i64 x.f, .int .i64 x.m, .bool x.fam] 24)
                                refine hK _ _ ga ?_
                                clear hK K
                                have BI0 := Lib.hid (Recs.built (w := w1) oe_ok (t := 24) (l := [x]) (n := 1) #[.int .i64 x.n, .string x.p, .string x.c, .int .i64 x.r, .int .i64 x.k, .int .i64 x.f, .int .i64 x.m, .bool x.fam] rfl rfl (by decide))
                                obtain ⟨w5, hw5⟩ : ∃ y, y = w1.alloc (.cells #[.int .i64 x.n, .string x.p, .string x.c, .int .i64 x.r, .int .i64 x.k, .int .i64 x.f, .int .i64 x.m, .bool x.fam] 24) := ⟨_, rfl⟩
                                rw [← hw5] at BI0 ga ⊢
                                obtain ⟨z6, hz6⟩ : ∃ z, z = w1.heap.size := ⟨_, rfl⟩
                                rw [← hz6] at BI0 ⊢
                                clear hw5 hz6
                                refine wpAnyG_step (i := 4) (by kernel_rfl) (fuel' := 2) (by kernel_rfl) (by simp only [pickOps, List.getElem?_toArray, List.getElem?_cons_zero, List.getElem?_cons_succ]; rfl) rfl ?_
                                intro w4 g4 K hK
                                have G14 : Grew w1 w4 := ga.trans g4
                                have hle14 := G14.le
                                obtain ⟨v4, w6, run4, own4, gr4, _⟩ := run_append_sl (P := Try.prog) w4 w1.heap.size 22 22 24 i0 _ 8 80 Try.underlying22 hi hz0 hz1 hz2 rfl (by decide) _ 0 _ (World.ownsRow_nil w4 w1.heap.size 24 8) _ q cb (flatO (E.take q)) (((HOW.out.grew (g1.trans G14)).1.head oe_ok (by omega) (by omega) (Nat.le_refl _)).2) (flat_one oe_ok _) (by unfold maxLen; omega) (by omega) hle14
                                rw [Nat.zero_add, List.nil_append] at own4
                                obtain ⟨A4, c4', rfl⟩ := own_form own4
                                have g6 : Grew w4 w6 := (Grew.refl w4).grown gr4 (by simp [Value.ownBlock])
                                refine wp_append_run w4 (.tmp 94) (.tmp 97) 22 22 rfl rfl rfl run4 ?_
                                refine hK _ _ g6 ?_
                                clear hK K run4 gr4
                                simp only [Act.put, List.setIfInBounds_toArray, List.set_cons_zero, List.set_cons_succ]
                                have OWC := Lib.hid own4
                                have BI := Lib.hid (BI0.out.grew (g4.trans g6))
                                have G16 : Grew w1 w6 := G14.trans g6
                                have GALL : Grew w w6 := (GW.out.trans g1).trans G16
                                have HO6 := Lib.hid (HOW.out.grew (g1.trans G16))
                                have hsz := G16.le
                                clear own4 g4 g6 ga hC BI0 G14
                                refine wpAnyG_end (by kernel_rfl) (fuel' := 1) (by kernel_rfl) (by simp only [pickOps, List.getElem?_toArray, List.getElem?_cons_zero, List.getElem?_cons_succ]; rfl) rfl ?_
                                intro w7 g7 K hK
                                obtain ⟨v8, w8, run8, own8, gr8, _⟩ := run_append_sl (P := Try.prog) w7 w1.heap.size 22 22 24 i0 _ 8 80 Try.underlying22 hi hz0 hz1 hz2 rfl (by decide) _ q _ (own_grew OWC.out g7) _ 1 1 (flatO [x]) (BI.out.2.grew g7) (flat_one oe_ok _) (by unfold maxLen; omega) (by omega) (Nat.le_trans hsz g7.le)
                                obtain ⟨A8, c8, rfl⟩ := own_form own8
                                refine wp_append_run w7 (.tmp 98) (.tmp 100) 22 22 rfl rfl rfl run8 ?_
                                refine hK _ _ ?_
                                clear hK K run8
                                simp only [Act.put, List.setIfInBounds_toArray, List.set_cons_zero, List.set_cons_succ]
                                have GE8 : Grew w w8 := (GALL.trans g7).grown gr8 (fun j hj => Nat.le_trans (GW.out.trans g1).le ((own_grew OWC.out g7).lt j hj).1)
                                have g18 : Grew w1 w8 := (G16.trans g7).grown gr8 (fun j hj => ((own_grew OWC.out g7).lt j hj).1)
                                have HO8 : Hid (Ords w8 B m cb E) := Lib.hid (HOW.out.grew (g1.trans g18))
                                have OW8 : Hid (w8.ownsRow w1.heap.size 24 8 (.slice A8 (q + 1) c8) (q + 1) (flatO (E.take q ++ [x]))) := by unfold Hid flatO; rw [List.flatMap_append]; exact own8
                                clear own8 gr8
                                refine wpAny_rest (fun _ _ _ _ _ h => h) [8] (by kernel_rfl) (by kernel_rfl) (by kernel_rfl) (by simp only [pickOps, List.getElem?_toArray, List.getElem?_cons_zero, List.getElem?_cons_succ]; rfl) ?_
                                repeat (first
                                  | (refine TakeAll.pure (v := ?_) (by rfl) ?_ ?_; rotate_left; (intro w' g'; go_simp; first | done | with_reducible rfl); (simp only [Act.put, List.setIfInBounds_toArray, List.set_cons_zero, List.set_cons_succ]))
                                  | (refine TakeAll.skip (by rfl) ?_; (simp only [Act.put, List.setIfInBounds_toArray, List.set_cons_zero, List.set_cons_succ])))
                                refine TakeAll.nil ?_
                                have r2 : ∀ y, (Instr.slice 22 (.slice B m cb) (some (.int .i64 (q : Int))) none none).run Try.prog y = .ok (.slice (tailA B cb q 8) (m - q) (cb - q)) y := fun y => run_slice_tail y 22 8 elem22 (size22 y) B m cb q .i64 (by omega)
                                have hle8 := g18.le
                                go_wp2_with (at_builtin; refine wpList_append_sl _ rfl (.tmp 102) (.tmp 105) 22 rfl w1.heap.size 24 i0 _ 8 80 Try.underlying22 hi hz0 hz1 hz2 rfl (by decide) (.slice A8 (q + 1) c8) (q + 1) _ rfl OW8.out (tailA B cb q 8) (m - q) (cb - q) _ rfl (HO8.out.1.tail oe_ok (by omega)).2 (flat_one oe_ok _) (by unfold maxLen; omega) (by omega) (by omega) ?_; intro v9 w9 own9 gr9 hat9; obtain ⟨A9, c9, rfl⟩ := own_form own9)
                                have EQ9 : Hid (insO x E = E.take q ++ [x] ++ E.drop q) := by unfold Hid; rw [List.append_assoc]; exact (insO_at HAT.out HST.out).symm
                                have hqm : q + 1 + (m - q) = m + 1 := by omega
                                rw [hqm] at own9
                                have HO9 : Hid (Ords w9 A9 (m + 1) c9 (insO x E)) := by
                                  refine ⟨Recs.own (by rw [(insO_perm x E).length_eq, List.length_cons, HO8.out.1.1]) (base := w1.heap.size) (e := 24) ?_, fun y hy => ?_⟩
                                  · rw [EQ9.out, List.flatMap_append]; exact own9
                                  · rcases List.mem_cons.1 ((insO_perm x E).mem_iff.1 hy) with rfl | hy
                                    · exact WX.out
                                    · exact HO8.out.2 y hy
                                have gE : Grew w w9 := GE8.grown gr9 (fun j hj => Nat.le_trans (GW.out.trans g1).le (OW8.out.lt j hj).1)
                                rw [hqm]
                                clear own9 gr9 hat9 r2
                                go_wp2_with fail
                                go_roundw
                                case rel => exact ⟨k + 1, insO x E, A9, m + 1, c9, by omega, by go_num, rfl, HO9, HI2, gE⟩
                                case measure => simp [intOf]; omega
                          · obtain rfl : q = m := by omega
                            have j2 : decide (q < q) = false := decide_eq_false (by omega)
                            have j3 : decide ((q : Int) < (q : Int)) = false := decide_eq_false (by omega)
                            have HST : Hid (∀ y, E[q]? = some y → ltB y x = false) := fun y hy => by
                              have := (List.getElem?_eq_some_iff.1 hy).1
                              rw [HOB.out.1.1] at this
                              omega
                            go_wp2_with fail
                            refine wp_region_seq (by kernel_rfl) Grew.refl (fun _ _ _ => Grew.trans) (fun _ _ _ _ _ h => h) (by kernel_rfl) ?_
                            repeat (first
                              | (refine TakeAll.pure (v := ?_) (by rfl) ?_ ?_; rotate_left; (intro w' g'; go_simp; first | done | with_reducible rfl); (simp only [Act.put, List.setIfInBounds_toArray, List.set_cons_zero, List.set_cons_succ]))
                              | (refine TakeAll.skip (by rfl) ?_; (simp only [Act.put, List.setIfInBounds_toArray, List.set_cons_zero, List.set_cons_succ])))
                            refine TakeAll.nil ?_
                            intro w6 g6
                            have GI2 := Lib.hid (GI.out.drew.trans g6)
                            clear GI j2 j3 g6
                            have GI := GI2
                            clear GI2
                            obtain ⟨wl, rfl⟩ : ∃ wl : World, wl = w6 := ⟨_, rfl⟩
                            obtain ⟨i0, hi, hz0, hz1, hz2⟩ := info_parts info24
                            have hcap := HOB.out.1.cap
                            have r1 : ∀ y, (Instr.slice 22 (.slice B q cb) none (some (.int .i64 (q : Int))) none).run Try.prog y = .ok (.slice B q cb) y := fun y => run_slice_head y 22 8 elem22 (size22 y) B q cb q .i64 (by omega)
                            have hC : ∀ w', Grew wl.drew w' → w'.cell? ⟨wo.heap.size, 0, none⟩ = some (.int .i64 x.n) ∧ w'.cell? ⟨wo.heap.size, 1, none⟩ = some (.string x.p) ∧ w'.cell? ⟨wo.heap.size, 2, none⟩ = some (.string x.c) ∧ w'.cell? ⟨wo.heap.size, 3, none⟩ = some (.int .i64 x.r) ∧ w'.cell? ⟨wo.heap.size, 4, none⟩ = some (.int .i64 x.k) ∧ w'.cell? ⟨wo.heap.size, 5, none⟩ = some (.int .i64 x.f) ∧ w'.cell? ⟨wo.heap.size, 6, none⟩ = some (.int .i64 x.m) ∧ w'.cell? ⟨wo.heap.size, 7, none⟩ = some (.bool x.fam) := fun w' g' => cells24n (range_grew HRX.out (GI.out.drew.trans g'))
                            have GW := Lib.hid ((G0.out.trans GI.out).drew)
                            have HOW := Lib.hid (HOB.out.grew (GI.out.drew))
                            go_wp2_with fail
                            refine wp_region_G (G := Grew) (by kernel_rfl) Grew.refl 7 ?_
                            refine wpAnyG_takes Grew.refl (fun _ _ _ => Grew.trans) (fun _ _ _ _ _ h => h) [0, 1, 2, 3, 5] (fuel' := 4) (by kernel_rfl) (by kernel_rfl) (by simp only [pickOps, List.getElem?_toArray, List.getElem?_cons_zero, List.getElem?_cons_succ]; rfl) ?_
                            repeat (first
                              | (refine TakeAll.pure (v := ?_) (by rfl) ?_ ?_; rotate_left; (intro w' g'; obtain ⟨c0, c1, c2, c3, c4, c5, c6, c7⟩ := hC w' g'; go_simp; first | done | with_reducible rfl); (simp only [Act.put, List.setIfInBounds_toArray, List.set_cons_zero, List.set_cons_succ]))
                              | (refine TakeAll.skip (by rfl) ?_; (simp only [Act.put, List.setIfInBounds_toArray, List.set_cons_zero, List.set_cons_succ])))
                            refine TakeAll.nil ?_
                            have hlw := GW.out.le
                            refine wpAnyG_two (i := 4) (j := 6) (by kernel_rfl) (fuel' := 3) (by kernel_rfl) (by simp only [pickOps, List.getElem?_toArray, List.getElem?_cons_zero, List.getElem?_cons_succ]; rfl) rfl (by simp only [pickOps, List.getElem?_toArray, List.getElem?_cons_zero, List.getElem?_cons_succ]; rfl) rfl ?_ ?_
                            · intro w1 g1 K hK
                              obtain ⟨v4, w4, run4, own4, gr4, _⟩ := run_append_sl (P := Try.prog) w1 w1.heap.size 22 22 24 i0 _ 8 80 Try.underlying22 hi hz0 hz1 hz2 rfl (by decide) _ 0 _ (World.ownsRow_nil w1 w1.heap.size 24 8) _ q cb (flatO (E.take q)) (((HOW.out.grew g1).1.head oe_ok (by omega) (by omega) (Nat.le_refl _)).2) (flat_one oe_ok _) (by unfold maxLen; omega) (by omega) (Nat.le_refl _)
                              rw [Nat.zero_add, List.nil_append] at own4
                              obtain ⟨A4, c4', rfl⟩ := own_form own4
                              have g4 : Grew w1 w4 := (Grew.refl w1).grown gr4 (by simp [Value.ownBlock])
                              refine wp_append_run w1 (.tmp 94) (.tmp 97) 22 22 rfl rfl rfl run4 ?_
                              refine hK _ _ g4 ?_
                              clear hK K run4 gr4
                              simp only [Act.put, List.setIfInBounds_toArray, List.set_cons_zero, List.set_cons_succ]
                              refine wpAnyG_step (i := 6) (by kernel_rfl) (fuel' := 2) (by kernel_rfl) (by simp only [pickOps, List.getElem?_toArray, List.getElem?_cons_zero, List.getElem?_cons_succ]; rfl) rfl ?_
                              intro w5 g5 K hK
                              go_simp
                              have ga := (Grew.refl w5).alloc (.cells #[.int .i64 x.n, .string x.p, .string x.c, .int .i64 x.r, .int .i64 x.k, .int .i64 x.f, .int .i64 x.m, .bool x.fam] 24)
                              refine hK _ _ ga ?_
                              clear hK K
                              have BI := Lib.hid (Recs.built (w := w5) oe_ok (t := 24) (l := [x]) (n := 1) #[.int .i64 x.n, .string x.p, .string x.c, .int .i64 x.r, .int .i64 x.k, .int .i64 x.f, .int .i64 x.m, .bool x.fam] rfl rfl (by decide))
                              obtain ⟨w6, hw6⟩ : ∃ y, y = w5.alloc (.cells #[.int .i64 x.n, .string x.p, .string x.c, .int .i64 x.r, .int .i64 x.k, .int .i64 x.f, .int .i64 x.m, .bool x.fam] 24) := ⟨_, rfl⟩
                              rw [← hw6] at BI ga ⊢
                              obtain ⟨z6, hz6⟩ : ∃ z, z = w5.heap.size := ⟨_, rfl⟩
                              rw [← hz6] at BI ⊢
                              clear hw6 hz6
                              have OWC := Lib.hid (own_grew (own_grew own4 g5) ga)
                              have G16 : Grew w1 w6 := (g4.trans g5).trans ga
                              have GALL : Grew w w6 := (GW.out.trans g1).trans G16
                              have HO6 := Lib.hid (HOW.out.grew (g1.trans G16))
                              have hsz := G16.le
                              clear own4 g4 g5 ga hC
                              refine wpAnyG_end (by kernel_rfl) (fuel' := 1) (by kernel_rfl) (by simp only [pickOps, List.getElem?_toArray, List.getElem?_cons_zero, List.getElem?_cons_succ]; rfl) rfl ?_
                              intro w7 g7 K hK
                              obtain ⟨v8, w8, run8, own8, gr8, _⟩ := run_append_sl (P := Try.prog) w7 w1.heap.size 22 22 24 i0 _ 8 80 Try.underlying22 hi hz0 hz1 hz2 rfl (by decide) _ q _ (own_grew OWC.out g7) _ 1 1 (flatO [x]) (BI.out.2.grew g7) (flat_one oe_ok _) (by unfold maxLen; omega) (by omega) (Nat.le_trans hsz g7.le)
                              obtain ⟨A8, c8, rfl⟩ := own_form own8
                              refine wp_append_run w7 (.tmp 98) (.tmp 100) 22 22 rfl rfl rfl run8 ?_
                              refine hK _ _ ?_
                              clear hK K run8
                              simp only [Act.put, List.setIfInBounds_toArray, List.set_cons_zero, List.set_cons_succ]
                              have GE8 : Grew w w8 := (GALL.trans g7).grown gr8 (fun j hj => Nat.le_trans (GW.out.trans g1).le ((own_grew OWC.out g7).lt j hj).1)
                              have g18 : Grew w1 w8 := (G16.trans g7).grown gr8 (fun j hj => ((own_grew OWC.out g7).lt j hj).1)
                              have HO8 : Hid (Ords w8 B q cb E) := Lib.hid (HOW.out.grew (g1.trans g18))
                              have OW8 : Hid (w8.ownsRow w1.heap.size 24 8 (.slice A8 (q + 1) c8) (q + 1) (flatO (E.take q ++ [x]))) := by unfold Hid flatO; rw [List.flatMap_append]; exact own8
                              clear own8 gr8
                              refine wpAny_rest (fun _ _ _ _ _ h => h) [8] (by kernel_rfl) (by kernel_rfl) (by kernel_rfl) (by simp only [pickOps, List.getElem?_toArray, List.getElem?_cons_zero, List.getElem?_cons_succ]; rfl) ?_
                              repeat (first
                                | (refine TakeAll.pure (v := ?_) (by rfl) ?_ ?_; rotate_left; (intro w' g'; go_simp; first | done | with_reducible rfl); (simp only [Act.put, List.setIfInBounds_toArray, List.set_cons_zero, List.set_cons_succ]))
                                | (refine TakeAll.skip (by rfl) ?_; (simp only [Act.put, List.setIfInBounds_toArray, List.set_cons_zero, List.set_cons_succ])))
                              refine TakeAll.nil ?_
                              have r2 : ∀ y, (Instr.slice 22 (.slice B q cb) (some (.int .i64 (q : Int))) none none).run Try.prog y = .ok (.slice (tailA B cb q 8) 0 (cb - q)) y := fun y => by have := run_slice_tail y 22 8 elem22 (size22 y) B q cb q .i64 (Nat.le_refl q); rwa [Nat.sub_self] at this
                              have hle8 := g18.le
                              go_wp2_with (at_builtin; refine wpList_append_sl _ rfl (.tmp 102) (.tmp 105) 22 rfl w1.heap.size 24 i0 _ 8 80 Try.underlying22 hi hz0 hz1 hz2 rfl (by decide) (.slice A8 (q + 1) c8) (q + 1) _ rfl OW8.out (tailA B cb q 8) 0 (cb - q) _ rfl (by have := (HO8.out.1.tail oe_ok (Nat.le_refl q)).2; rwa [Nat.sub_self] at this) (flat_one oe_ok _) (by unfold maxLen; omega) (by omega) (by omega) ?_; intro v9 w9 own9 gr9 hat9; obtain ⟨A9, c9, rfl⟩ := own_form own9)
                              have EQ9 : Hid (insO x E = E.take q ++ [x] ++ E.drop q) := by unfold Hid; rw [List.append_assoc]; exact (insO_at HAT.out HST.out).symm
                              have hqm : q + 1 + 0 = q + 1 := by omega
                              rw [hqm] at own9
                              have HO9 : Hid (Ords w9 A9 (q + 1) c9 (insO x E)) := by
                                refine ⟨Recs.own (by rw [(insO_perm x E).length_eq, List.length_cons, HO8.out.1.1]) (base := w1.heap.size) (e := 24) ?_, fun y hy => ?_⟩
                                · rw [EQ9.out, List.flatMap_append]; exact own9
                                · rcases List.mem_cons.1 ((insO_perm x E).mem_iff.1 hy) with rfl | hy
                                  · exact WX.out
                                  · exact HO8.out.2 y hy
                              have gE : Grew w w9 := GE8.grown gr9 (fun j hj => Nat.le_trans (GW.out.trans g1).le (OW8.out.lt j hj).1)
                              try rw [hqm]
                              clear own9 gr9 hat9 r2
                              go_wp2_with fail
                              go_roundw
                              case rel => exact ⟨k + 1, insO x E, A9, q + 1, c9, by omega, by go_num, rfl, HO9, HI2, gE⟩
                              case measure => simp [intOf]; omega
                            · intro w1 g1 K hK
                              go_simp
                              have ga := (Grew.refl w1).alloc (.cells #[.int .i64 x.n, .string x.p, .string x.c, .int .i64 x.r, .int .i64 x.k, .int .i64 x.f, .int .i64 x.m, .bool x.fam] 24)
                              refine hK _ _ ga ?_
                              clear hK K
                              have BI0 := Lib.hid (Recs.built (w := w1) oe_ok (t := 24) (l := [x]) (n := 1) #[.int .i64 x.n, .string x.p, .string x.c, .int .i64 x.r, .int .i64 x.k, .int .i64 x.f, .int .i64 x.m, .bool x.fam] rfl rfl (by decide))
                              obtain ⟨w5, hw5⟩ : ∃ y, y = w1.alloc (.cells #[.int .i64 x.n, .string x.p, .string x.c, .int .i64 x.r, .int .i64 x.k, .int .i64 x.f, .int .i64 x.m, .bool x.fam] 24) := ⟨_, rfl⟩
                              rw [← hw5] at BI0 ga ⊢
                              obtain ⟨z6, hz6⟩ : ∃ z, z = w1.heap.size := ⟨_, rfl⟩
                              rw [← hz6] at BI0 ⊢
                              clear hw5 hz6
                              refine wpAnyG_step (i := 4) (by kernel_rfl) (fuel' := 2) (by kernel_rfl) (by simp only [pickOps, List.getElem?_toArray, List.getElem?_cons_zero, List.getElem?_cons_succ]; rfl) rfl ?_
                              intro w4 g4 K hK
                              have G14 : Grew w1 w4 := ga.trans g4
                              have hle14 := G14.le
                              obtain ⟨v4, w6, run4, own4, gr4, _⟩ := run_append_sl (P := Try.prog) w4 w1.heap.size 22 22 24 i0 _ 8 80 Try.underlying22 hi hz0 hz1 hz2 rfl (by decide) _ 0 _ (World.ownsRow_nil w4 w1.heap.size 24 8) _ q cb (flatO (E.take q)) (((HOW.out.grew (g1.trans G14)).1.head oe_ok (by omega) (by omega) (Nat.le_refl _)).2) (flat_one oe_ok _) (by unfold maxLen; omega) (by omega) hle14
                              rw [Nat.zero_add, List.nil_append] at own4
                              obtain ⟨A4, c4', rfl⟩ := own_form own4
                              have g6 : Grew w4 w6 := (Grew.refl w4).grown gr4 (by simp [Value.ownBlock])
                              refine wp_append_run w4 (.tmp 94) (.tmp 97) 22 22 rfl rfl rfl run4 ?_
                              refine hK _ _ g6 ?_
                              clear hK K run4 gr4
                              simp only [Act.put, List.setIfInBounds_toArray, List.set_cons_zero, List.set_cons_succ]
                              have OWC := Lib.hid own4
                              have BI := Lib.hid (BI0.out.grew (g4.trans g6))
                              have G16 : Grew w1 w6 := G14.trans g6
                              have GALL : Grew w w6 := (GW.out.trans g1).trans G16
                              have HO6 := Lib.hid (HOW.out.grew (g1.trans G16))
                              have hsz := G16.le
                              clear own4 g4 g6 ga hC BI0 G14
                              refine wpAnyG_end (by kernel_rfl) (fuel' := 1) (by kernel_rfl) (by simp only [pickOps, List.getElem?_toArray, List.getElem?_cons_zero, List.getElem?_cons_succ]; rfl) rfl ?_
                              intro w7 g7 K hK
                              obtain ⟨v8, w8, run8, own8, gr8, _⟩ := run_append_sl (P := Try.prog) w7 w1.heap.size 22 22 24 i0 _ 8 80 Try.underlying22 hi hz0 hz1 hz2 rfl (by decide) _ q _ (own_grew OWC.out g7) _ 1 1 (flatO [x]) (BI.out.2.grew g7) (flat_one oe_ok _) (by unfold maxLen; omega) (by omega) (Nat.le_trans hsz g7.le)
                              obtain ⟨A8, c8, rfl⟩ := own_form own8
                              refine wp_append_run w7 (.tmp 98) (.tmp 100) 22 22 rfl rfl rfl run8 ?_
                              refine hK _ _ ?_
                              clear hK K run8
                              simp only [Act.put, List.setIfInBounds_toArray, List.set_cons_zero, List.set_cons_succ]
                              have GE8 : Grew w w8 := (GALL.trans g7).grown gr8 (fun j hj => Nat.le_trans (GW.out.trans g1).le ((own_grew OWC.out g7).lt j hj).1)
                              have g18 : Grew w1 w8 := (G16.trans g7).grown gr8 (fun j hj => ((own_grew OWC.out g7).lt j hj).1)
                              have HO8 : Hid (Ords w8 B q cb E) := Lib.hid (HOW.out.grew (g1.trans g18))
                              have OW8 : Hid (w8.ownsRow w1.heap.size 24 8 (.slice A8 (q + 1) c8) (q + 1) (flatO (E.take q ++ [x]))) := by unfold Hid flatO; rw [List.flatMap_append]; exact own8
                              clear own8 gr8
                              refine wpAny_rest (fun _ _ _ _ _ h => h) [8] (by kernel_rfl) (by kernel_rfl) (by kernel_rfl) (by simp only [pickOps, List.getElem?_toArray, List.getElem?_cons_zero, List.getElem?_cons_succ]; rfl) ?_
                              repeat (first
                                | (refine TakeAll.pure (v := ?_) (by rfl) ?_ ?_; rotate_left; (intro w' g'; go_simp; first | done | with_reducible rfl); (simp only [Act.put, List.setIfInBounds_toArray, List.set_cons_zero, List.set_cons_succ]))
                                | (refine TakeAll.skip (by rfl) ?_; (simp only [Act.put, List.setIfInBounds_toArray, List.set_cons_zero, List.set_cons_succ])))
                              refine TakeAll.nil ?_
                              have r2 : ∀ y, (Instr.slice 22 (.slice B q cb) (some (.int .i64 (q : Int))) none none).run Try.prog y = .ok (.slice (tailA B cb q 8) 0 (cb - q)) y := fun y => by have := run_slice_tail y 22 8 elem22 (size22 y) B q cb q .i64 (Nat.le_refl q); rwa [Nat.sub_self] at this
                              have hle8 := g18.le
                              go_wp2_with (at_builtin; refine wpList_append_sl _ rfl (.tmp 102) (.tmp 105) 22 rfl w1.heap.size 24 i0 _ 8 80 Try.underlying22 hi hz0 hz1 hz2 rfl (by decide) (.slice A8 (q + 1) c8) (q + 1) _ rfl OW8.out (tailA B cb q 8) 0 (cb - q) _ rfl (by have := (HO8.out.1.tail oe_ok (Nat.le_refl q)).2; rwa [Nat.sub_self] at this) (flat_one oe_ok _) (by unfold maxLen; omega) (by omega) (by omega) ?_; intro v9 w9 own9 gr9 hat9; obtain ⟨A9, c9, rfl⟩ := own_form own9)
                              have EQ9 : Hid (insO x E = E.take q ++ [x] ++ E.drop q) := by unfold Hid; rw [List.append_assoc]; exact (insO_at HAT.out HST.out).symm
                              have hqm : q + 1 + 0 = q + 1 := by omega
                              rw [hqm] at own9
                              have HO9 : Hid (Ords w9 A9 (q + 1) c9 (insO x E)) := by
                                refine ⟨Recs.own (by rw [(insO_perm x E).length_eq, List.length_cons, HO8.out.1.1]) (base := w1.heap.size) (e := 24) ?_, fun y hy => ?_⟩
                                · rw [EQ9.out, List.flatMap_append]; exact own9
                                · rcases List.mem_cons.1 ((insO_perm x E).mem_iff.1 hy) with rfl | hy
                                  · exact WX.out
                                  · exact HO8.out.2 y hy
                              have gE : Grew w w9 := GE8.grown gr9 (fun j hj => Nat.le_trans (GW.out.trans g1).le (OW8.out.lt j hj).1)
                              try rw [hqm]
                              clear own9 gr9 hat9 r2
                              go_wp2_with fail
                              go_roundw
                              case rel => exact ⟨k + 1, insO x E, A9, q + 1, c9, by omega, by go_num, rfl, HO9, HI2, gE⟩
                              case measure => simp [intOf]; omega
                  · have j2 : decide (q < n) = false := decide_eq_false hqn
                    have j3 : decide ((q : Int) < (n : Int)) = false := decide_eq_false (by omega)
                    have LT : Hid (t = true ↔ NoLater l kn k x) := by
                      unfold Hid; rw [HN.out]
                      exact later_iff HVL.out HK.out (fun z hz => by have := (List.getElem?_eq_some_iff.1 hz).1; rw [HL.out] at this; omega)
                    clear HN
                    cases t with
                    | false =>
                      have HI2 := Lib.hid (opI_skip HI.out HX.out (fun h => by have := LT.out.2 h.2.2.2; cases this))
                      have gE : Grew w wi := (hg.trans ga).trans hgi
                      have HO2 := Lib.hid (HO.out.grew (ga.trans hgi))
                      go_wp2_with fail
                      go_roundw
                      case rel => exact ⟨k + 1, E, B, m, cb, by omega, by go_num, rfl, HO2, HI2, gE⟩
                      case measure => simp [intOf]; omega
                    | true =>
                      have HI2 := Lib.hid (opI_take HI.out HX.out HXP.out HXK.out HOP.out (LT.out.1 rfl))
                      have hmk := HI.out.1
                      rw [HO.out.1.1] at hmk
                      have HRX := Lib.hid (range_grew HRA.out hgi)
                      have HOB := Lib.hid (HO.out.grew (ga.trans hgi))
                      have G0 := Lib.hid ((hg.trans ga).trans hgi)
                      obtain ⟨wj, rfl⟩ : ∃ wj : World, wj = wi := ⟨_, rfl⟩
                      clear LT HI HO hg ga hgi HXP HXK HOP HRA
                      go_wp2_with fail
                      go_loopw [14] (fun v y => ∃ q : Nat, q ≤ m ∧ v = .int .i64 q ∧ Hid (∀ j z, j < q → E[j]? = some z → ltB z x = true) ∧ Hid (Grew wj y)) (fun v _ => m - (intOf v).toNat)
                      case atStart => exact ⟨0, Nat.zero_le _, rfl, fun j z hj => absurd hj (by omega), Grew.refl _⟩
                      case round =>
                        obtain ⟨wl, rfl⟩ : ∃ wl : World, wl = wr := ⟨_, rfl⟩
                        obtain ⟨q, hq, rfl, HAT, GI⟩ := hrel
                        by_cases hqm' : q < m
                        · obtain ⟨b2, o2, z, eB, hz, hrz⟩ := (HOB.out.1.grew GI.out.drew).at_ oe_ok hqm'
                          have HZ := Lib.hid hz
                          have HRZ := Lib.hid hrz
                          have i0 : (0 : Int) ≤ (q : Int) := by omega
                          have i1 : (q : Int) < (m : Int) := by omega
                          have j2 : decide (q < m) = true := decide_eq_true hqm'
                          have j3 : decide ((q : Int) < (m : Int)) = true := decide_eq_true (by omega)
                          clear hz hrz
                          subst eB
                          have hC2 : ∀ w', Grew wl.drew w' → (w'.cell? ⟨wo.heap.size, 0, none⟩ = some (.int .i64 x.n) ∧ w'.cell? ⟨wo.heap.size, 1, none⟩ = some (.string x.p) ∧ w'.cell? ⟨wo.heap.size, 2, none⟩ = some (.string x.c) ∧ w'.cell? ⟨wo.heap.size, 3, none⟩ = some (.int .i64 x.r) ∧ w'.cell? ⟨wo.heap.size, 4, none⟩ = some (.int .i64 x.k) ∧ w'.cell? ⟨wo.heap.size, 5, none⟩ = some (.int .i64 x.f) ∧ w'.cell? ⟨wo.heap.size, 6, none⟩ = some (.int .i64 x.m) ∧ w'.cell? ⟨wo.heap.size, 7, none⟩ = some (.bool x.fam)) ∧ w'.cell? ⟨b2, o2 + q * 8, none⟩ = some (.int .i64 z.n) ∧ w'.cell? ⟨b2, o2 + q * 8 + 1, none⟩ = some (.string z.p) ∧ w'.cell? ⟨b2, o2 + q * 8 + 2, none⟩ = some (.string z.c) ∧ w'.cell? ⟨b2, o2 + q * 8 + 3, none⟩ = some (.int .i64 z.r) ∧ w'.cell? ⟨b2, o2 + q * 8 + 4, none⟩ = some (.int .i64 z.k) ∧ w'.cell? ⟨b2, o2 + q * 8 + 5, none⟩ = some (.int .i64 z.f) ∧ w'.cell? ⟨b2, o2 + q * 8 + 6, none⟩ = some (.int .i64 z.m) ∧ w'.cell? ⟨b2, o2 + q * 8 + 7, none⟩ = some (.bool z.fam) := fun w' g' => ⟨cells24n (range_grew HRX.out (GI.out.drew.trans g')), cells24 (range_grew HRZ.out g')⟩
                          cases hlz : ltB z x with
                          | true =>
                            have HLZ := Lib.hid hlz
                            have HAT2 : Hid (∀ j y, j < q + 1 → E[j]? = some y → ltB y x = true) := fun j y hj hy => by
                              rcases Nat.lt_succ_iff_lt_or_eq.1 hj with h4 | rfl
                              · exact HAT.out j y h4 hy
                              · rw [HZ.out] at hy; injection hy with hy; subst hy; exact HLZ.out
                            clear hlz
                            go_wp2_with fail
                            refine wp_region_seq (by kernel_rfl) Grew.refl (fun _ _ _ => Grew.trans) (fun _ _ _ _ _ h => h) (by kernel_rfl) ?_
                            repeat (first
                              | (refine TakeAll.pure (v := ?_) (by rfl) ?_ ?_; rotate_left; (intro w' g'; obtain ⟨⟨c0, c1, c2, c3, c4, c5, c6, c7⟩, d0, d1, d2, d3, d4, d5, d6, d7⟩ := hC2 w' g'; go_simp; first | done | with_reducible rfl); (simp only [Act.put, List.setIfInBounds_toArray, List.set_cons_zero, List.set_cons_succ]))
                              | (refine TakeAll.skip (by rfl) ?_; (simp only [Act.put, List.setIfInBounds_toArray, List.set_cons_zero, List.set_cons_succ])))
                            refine TakeAll.call (by rfl) 29 _ (fun _ => by go_simp; first | done | rfl) (fun w' g' => before_any z x _ HLZ.out w') ?_
                            simp only [Act.put, List.setIfInBounds_toArray, List.set_cons_zero, List.set_cons_succ]
                            repeat (first
                              | (refine TakeAll.pure (v := ?_) (by rfl) ?_ ?_; rotate_left; (intro w' g'; go_simp; first | done | with_reducible rfl); (simp only [Act.put, List.setIfInBounds_toArray, List.set_cons_zero, List.set_cons_succ]))
                              | (refine TakeAll.skip (by rfl) ?_; (simp only [Act.put, List.setIfInBounds_toArray, List.set_cons_zero, List.set_cons_succ])))
                            refine TakeAll.nil ?_
                            intro w6 g6
                            have GI2 := Lib.hid (GI.out.drew.trans g6)
                            clear hC2
                            go_wp2_with fail
                            go_roundw
                            case rel => exact ⟨q + 1, by omega, by go_num, HAT2, GI2⟩
                            case measure => simp [intOf]; omega
                          | false =>
                            have HLZ := Lib.hid hlz
                            have HST : Hid (∀ y, E[q]? = some y → ltB y x = false) := fun y hy => by rw [HZ.out] at hy; injection hy with hy; subst hy; exact HLZ.out
                            clear hlz
                            go_wp2_with fail
                            refine wp_region_seq (by kernel_rfl) Grew.refl (fun _ _ _ => Grew.trans) (fun _ _ _ _ _ h => h) (by kernel_rfl) ?_
                            repeat (first
                              | (refine TakeAll.pure (v := ?_) (by rfl) ?_ ?_; rotate_left; (intro w' g'; obtain ⟨⟨c0, c1, c2, c3, c4, c5, c6, c7⟩, d0, d1, d2, d3, d4, d5, d6, d7⟩ := hC2 w' g'; go_simp; first | done | with_reducible rfl); (simp only [Act.put, List.setIfInBounds_toArray, List.set_cons_zero, List.set_cons_succ]))
                              | (refine TakeAll.skip (by rfl) ?_; (simp only [Act.put, List.setIfInBounds_toArray, List.set_cons_zero, List.set_cons_succ])))
                            refine TakeAll.call (by rfl) 29 _ (fun _ => by go_simp; first | done | rfl) (fun w' g' => before_any z x _ HLZ.out w') ?_
                            simp only [Act.put, List.setIfInBounds_toArray, List.set_cons_zero, List.set_cons_succ]
                            repeat (first
                              | (refine TakeAll.pure (v := ?_) (by rfl) ?_ ?_; rotate_left; (intro w' g'; go_simp; first | done | with_reducible rfl); (simp only [Act.put, List.setIfInBounds_toArray, List.set_cons_zero, List.set_cons_succ]))
                              | (refine TakeAll.skip (by rfl) ?_; (simp only [Act.put, List.setIfInBounds_toArray, List.set_cons_zero, List.set_cons_succ])))
                            refine TakeAll.nil ?_
                            intro w6 g6
                            have GI2 := Lib.hid (GI.out.drew.trans g6)
                            clear hC2 GI i0 i1 j2 j3 g6
                            have GI := GI2
                            clear GI2
                            obtain ⟨B, hB⟩ : ∃ B, B = some (⟨b2, o2, none⟩ : Addr) := ⟨_, rfl⟩
                            rw [← hB] at HOB ⊢
                            clear hB
                            obtain ⟨wl, rfl⟩ : ∃ wl : World, wl = w6 := ⟨_, rfl⟩
                            obtain ⟨i0, hi, hz0, hz1, hz2⟩ := info_parts info24
                            have hcap := HOB.out.1.cap
                            have r1 : ∀ y, (Instr.slice 22 (.slice B m cb) none (some (.int .i64 (q : Int))) none).run Try.prog y = .ok (.slice B q cb) y := fun y => run_slice_head y 22 8 elem22 (size22 y) B m cb q .i64 (by omega)
                            have hC : ∀ w', Grew wl.drew w' → w'.cell? ⟨wo.heap.size, 0, none⟩ = some (.int .i64 x.n) ∧ w'.cell? ⟨wo.heap.size, 1, none⟩ = some (.string x.p) ∧ w'.cell? ⟨wo.heap.size, 2, none⟩ = some (.string x.c) ∧ w'.cell? ⟨wo.heap.size, 3, none⟩ = some (.int .i64 x.r) ∧ w'.cell? ⟨wo.heap.size, 4, none⟩ = some (.int .i64 x.k) ∧ w'.cell? ⟨wo.heap.size, 5, none⟩ = some (.int .i64 x.f) ∧ w'.cell? ⟨wo.heap.size, 6, none⟩ = some (.int .i64 x.m) ∧ w'.cell? ⟨wo.heap.size, 7, none⟩ = some (.bool x.fam) := fun w' g' => cells24n (range_grew HRX.out (GI.out.drew.trans g'))
                            have GW := Lib.hid ((G0.out.trans GI.out).drew)
                            have HOW := Lib.hid (HOB.out.grew (GI.out.drew))
                            go_wp2_with fail
                            refine wp_region_G (G := Grew) (by kernel_rfl) Grew.refl 7 ?_
                            refine wpAnyG_takes Grew.refl (fun _ _ _ => Grew.trans) (fun _ _ _ _ _ h => h) [0, 1, 2, 3, 5] (fuel' := 4) (by kernel_rfl) (by kernel_rfl) (by simp only [pickOps, List.getElem?_toArray, List.getElem?_cons_zero, List.getElem?_cons_succ]; rfl) ?_
                            repeat (first
                              | (refine TakeAll.pure (v := ?_) (by rfl) ?_ ?_; rotate_left; (intro w' g'; obtain ⟨c0, c1, c2, c3, c4, c5, c6, c7⟩ := hC w' g'; go_simp; first | done | with_reducible rfl); (simp only [Act.put, List.setIfInBounds_toArray, List.set_cons_zero, List.set_cons_succ]))
                              | (refine TakeAll.skip (by rfl) ?_; (simp only [Act.put, List.setIfInBounds_toArray, List.set_cons_zero, List.set_cons_succ])))
                            refine TakeAll.nil ?_
                            have hlw := GW.out.le
                            refine wpAnyG_two (i := 4) (j := 6) (by kernel_rfl) (fuel' := 3) (by kernel_rfl) (by simp only [pickOps, List.getElem?_toArray, List.getElem?_cons_zero, List.getElem?_cons_succ]; rfl) rfl (by simp only [pickOps, List.getElem?_toArray, List.getElem?_cons_zero, List.getElem?_cons_succ]; rfl) rfl ?_ ?_
                            · intro w1 g1 K hK
                              obtain ⟨v4, w4, run4, own4, gr4, _⟩ := run_append_sl (P := Try.prog) w1 w1.heap.size 22 22 24 i0 _ 8 80 Try.underlying22 hi hz0 hz1 hz2 rfl (by decide) _ 0 _ (World.ownsRow_nil w1 w1.heap.size 24 8) _ q cb (flatO (E.take q)) (((HOW.out.grew g1).1.head oe_ok (by omega) (by omega) (Nat.le_refl _)).2) (flat_one oe_ok _) (by unfold maxLen; omega) (by omega) (Nat.le_refl _)
                              rw [Nat.zero_add, List.nil_append] at own4
                              obtain ⟨A4, c4', rfl⟩ := own_form own4
                              have g4 : Grew w1 w4 := (Grew.refl w1).grown gr4 (by simp [Value.ownBlock])
                              refine wp_append_run w1 (.tmp 94) (.tmp 97) 22 22 rfl rfl rfl run4 ?_
                              refine hK _ _ g4 ?_
                              clear hK K run4 gr4
                              simp only [Act.put, List.setIfInBounds_toArray, List.set_cons_zero, List.set_cons_succ]
                              refine wpAnyG_step (i := 6) (by kernel_rfl) (fuel' := 2) (by kernel_rfl) (by simp only [pickOps, List.getElem?_toArray, List.getElem?_cons_zero, List.getElem?_cons_succ]; rfl) rfl ?_
                              intro w5 g5 K hK
                              go_simp
                              have ga := (Grew.refl w5).alloc (.cells #[.int .i64 x.n, .string x.p, .string x.c, .int .i64 x.r, .int .i64 x.k, .int .i64 x.f, .int .i64 x.m, .bool x.fam] 24)
                              refine hK _ _ ga ?_
                              clear hK K
                              have BI := Lib.hid (Recs.built (w := w5) oe_ok (t := 24) (l := [x]) (n := 1) #[.int .i64 x.n, .string x.p, .string x.c, .int .i64 x.r, .int .i64 x.k, .int .i64 x.f, .int .i64 x.m, .bool x.fam] rfl rfl (by decide))
                              obtain ⟨w6, hw6⟩ : ∃ y, y = w5.alloc (.cells #[.int .i64 x.n, .string x.p, .string x.c, .int .i64 x.r, .int .i64 x.k, .int .i64 x.f, .int .i64 x.m, .bool x.fam] 24) := ⟨_, rfl⟩
                              rw [← hw6] at BI ga ⊢
                              obtain ⟨z6, hz6⟩ : ∃ z, z = w5.heap.size := ⟨_, rfl⟩
                              rw [← hz6] at BI ⊢
                              clear hw6 hz6
                              have OWC := Lib.hid (own_grew (own_grew own4 g5) ga)
                              have G16 : Grew w1 w6 := (g4.trans g5).trans ga
                              have GALL : Grew w w6 := (GW.out.trans g1).trans G16
                              have HO6 := Lib.hid (HOW.out.grew (g1.trans G16))
                              have hsz := G16.le
                              clear own4 g4 g5 ga hC
                              refine wpAnyG_end (by kernel_rfl) (fuel' := 1) (by kernel_rfl) (by simp only [pickOps, List.getElem?_toArray, List.getElem?_cons_zero, List.getElem?_cons_succ]; rfl) rfl ?_
                              intro w7 g7 K hK
                              obtain ⟨v8, w8, run8, own8, gr8, _⟩ := run_append_sl (P := Try.prog) w7 w1.heap.size 22 22 24 i0 _ 8 80 Try.underlying22 hi hz0 hz1 hz2 rfl (by decide) _ q _ (own_grew OWC.out g7) _ 1 1 (flatO [x]) (BI.out.2.grew g7) (flat_one oe_ok _) (by unfold maxLen; omega) (by omega) (Nat.le_trans hsz g7.le)
                              obtain ⟨A8, c8, rfl⟩ := own_form own8
                              refine wp_append_run w7 (.tmp 98) (.tmp 100) 22 22 rfl rfl rfl run8 ?_
                              refine hK _ _ ?_
                              clear hK K run8
                              simp only [Act.put, List.setIfInBounds_toArray, List.set_cons_zero, List.set_cons_succ]
                              have GE8 : Grew w w8 := (GALL.trans g7).grown gr8 (fun j hj => Nat.le_trans (GW.out.trans g1).le ((own_grew OWC.out g7).lt j hj).1)
                              have g18 : Grew w1 w8 := (G16.trans g7).grown gr8 (fun j hj => ((own_grew OWC.out g7).lt j hj).1)
                              have HO8 : Hid (Ords w8 B m cb E) := Lib.hid (HOW.out.grew (g1.trans g18))
                              have OW8 : Hid (w8.ownsRow w1.heap.size 24 8 (.slice A8 (q + 1) c8) (q + 1) (flatO (E.take q ++ [x]))) := by unfold Hid flatO; rw [List.flatMap_append]; exact own8
                              clear own8 gr8
                              refine wpAny_rest (fun _ _ _ _ _ h => h) [8] (by kernel_rfl) (by kernel_rfl) (by kernel_rfl) (by simp only [pickOps, List.getElem?_toArray, List.getElem?_cons_zero, List.getElem?_cons_succ]; rfl) ?_
                              repeat (first
                                | (refine TakeAll.pure (v := ?_) (by rfl) ?_ ?_; rotate_left; (intro w' g'; go_simp; first | done | with_reducible rfl); (simp only [Act.put, List.setIfInBounds_toArray, List.set_cons_zero, List.set_cons_succ]))
                                | (refine TakeAll.skip (by rfl) ?_; (simp only [Act.put, List.setIfInBounds_toArray, List.set_cons_zero, List.set_cons_succ])))
                              refine TakeAll.nil ?_
                              have r2 : ∀ y, (Instr.slice 22 (.slice B m cb) (some (.int .i64 (q : Int))) none none).run Try.prog y = .ok (.slice (tailA B cb q 8) (m - q) (cb - q)) y := fun y => run_slice_tail y 22 8 elem22 (size22 y) B m cb q .i64 (by omega)
                              have hle8 := g18.le
                              go_wp2_with (at_builtin; refine wpList_append_sl _ rfl (.tmp 102) (.tmp 105) 22 rfl w1.heap.size 24 i0 _ 8 80 Try.underlying22 hi hz0 hz1 hz2 rfl (by decide) (.slice A8 (q + 1) c8) (q + 1) _ rfl OW8.out (tailA B cb q 8) (m - q) (cb - q) _ rfl (HO8.out.1.tail oe_ok (by omega)).2 (flat_one oe_ok _) (by unfold maxLen; omega) (by omega) (by omega) ?_; intro v9 w9 own9 gr9 hat9; obtain ⟨A9, c9, rfl⟩ := own_form own9)
                              have EQ9 : Hid (insO x E = E.take q ++ [x] ++ E.drop q) := by unfold Hid; rw [List.append_assoc]; exact (insO_at HAT.out HST.out).symm
                              have hqm : q + 1 + (m - q) = m + 1 := by omega
                              rw [hqm] at own9
                              have HO9 : Hid (Ords w9 A9 (m + 1) c9 (insO x E)) := by
                                refine ⟨Recs.own (by rw [(insO_perm x E).length_eq, List.length_cons, HO8.out.1.1]) (base := w1.heap.size) (e := 24) ?_, fun y hy => ?_⟩
                                · rw [EQ9.out, List.flatMap_append]; exact own9
                                · rcases List.mem_cons.1 ((insO_perm x E).mem_iff.1 hy) with rfl | hy
                                  · exact WX.out
                                  · exact HO8.out.2 y hy
                              have gE : Grew w w9 := GE8.grown gr9 (fun j hj => Nat.le_trans (GW.out.trans g1).le (OW8.out.lt j hj).1)
                              rw [hqm]
                              clear own9 gr9 hat9 r2
                              go_wp2_with fail
                              go_roundw
                              case rel => exact ⟨k + 1, insO x E, A9, m + 1, c9, by omega, by go_num, rfl, HO9, HI2, gE⟩
                              case measure => simp [intOf]; omega
                            · intro w1 g1 K hK
                              go_simp
                              have ga := (Grew.refl w1).alloc (.cells #[.int .i64 x.n, .string x.p, .string x.c, .int .i64 x.r, .int .i64 x.k, .int .i64 x.f, .int .i64 x.m, .bool x.fam] 24)
                              refine hK _ _ ga ?_
                              clear hK K
                              have BI0 := Lib.hid (Recs.built (w := w1) oe_ok (t := 24) (l := [x]) (n := 1) #[.int .i64 x.n, .string x.p, .string x.c, .int .i64 x.r, .int .i64 x.k, .int .i64 x.f, .int .i64 x.m, .bool x.fam] rfl rfl (by decide))
                              obtain ⟨w5, hw5⟩ : ∃ y, y = w1.alloc (.cells #[.int .i64 x.n, .string x.p, .string x.c, .int .i64 x.r, .int .i64 x.k, .int .i64 x.f, .int .i64 x.m, .bool x.fam] 24) := ⟨_, rfl⟩
                              rw [← hw5] at BI0 ga ⊢
                              obtain ⟨z6, hz6⟩ : ∃ z, z = w1.heap.size := ⟨_, rfl⟩
                              rw [← hz6] at BI0 ⊢
                              clear hw5 hz6
                              refine wpAnyG_step (i := 4) (by kernel_rfl) (fuel' := 2) (by kernel_rfl) (by simp only [pickOps, List.getElem?_toArray, List.getElem?_cons_zero, List.getElem?_cons_succ]; rfl) rfl ?_
                              intro w4 g4 K hK
                              have G14 : Grew w1 w4 := ga.trans g4
                              have hle14 := G14.le
                              obtain ⟨v4, w6, run4, own4, gr4, _⟩ := run_append_sl (P := Try.prog) w4 w1.heap.size 22 22 24 i0 _ 8 80 Try.underlying22 hi hz0 hz1 hz2 rfl (by decide) _ 0 _ (World.ownsRow_nil w4 w1.heap.size 24 8) _ q cb (flatO (E.take q)) (((HOW.out.grew (g1.trans G14)).1.head oe_ok (by omega) (by omega) (Nat.le_refl _)).2) (flat_one oe_ok _) (by unfold maxLen; omega) (by omega) hle14
                              rw [Nat.zero_add, List.nil_append] at own4
                              obtain ⟨A4, c4', rfl⟩ := own_form own4
                              have g6 : Grew w4 w6 := (Grew.refl w4).grown gr4 (by simp [Value.ownBlock])
                              refine wp_append_run w4 (.tmp 94) (.tmp 97) 22 22 rfl rfl rfl run4 ?_
                              refine hK _ _ g6 ?_
                              clear hK K run4 gr4
                              simp only [Act.put, List.setIfInBounds_toArray, List.set_cons_zero, List.set_cons_succ]
                              have OWC := Lib.hid own4
                              have BI := Lib.hid (BI0.out.grew (g4.trans g6))
                              have G16 : Grew w1 w6 := G14.trans g6
                              have GALL : Grew w w6 := (GW.out.trans g1).trans G16
                              have HO6 := Lib.hid (HOW.out.grew (g1.trans G16))
                              have hsz := G16.le
                              clear own4 g4 g6 ga hC BI0 G14
                              refine wpAnyG_end (by kernel_rfl) (fuel' := 1) (by kernel_rfl) (by simp only [pickOps, List.getElem?_toArray, List.getElem?_cons_zero, List.getElem?_cons_succ]; rfl) rfl ?_
                              intro w7 g7 K hK
                              obtain ⟨v8, w8, run8, own8, gr8, _⟩ := run_append_sl (P := Try.prog) w7 w1.heap.size 22 22 24 i0 _ 8 80 Try.underlying22 hi hz0 hz1 hz2 rfl (by decide) _ q _ (own_grew OWC.out g7) _ 1 1 (flatO [x]) (BI.out.2.grew g7) (flat_one oe_ok _) (by unfold maxLen; omega) (by omega) (Nat.le_trans hsz g7.le)
                              obtain ⟨A8, c8, rfl⟩ := own_form own8
                              refine wp_append_run w7 (.tmp 98) (.tmp 100) 22 22 rfl rfl rfl run8 ?_
                              refine hK _ _ ?_
                              clear hK K run8
                              simp only [Act.put, List.setIfInBounds_toArray, List.set_cons_zero, List.set_cons_succ]
                              have GE8 : Grew w w8 := (GALL.trans g7).grown gr8 (fun j hj => Nat.le_trans (GW.out.trans g1).le ((own_grew OWC.out g7).lt j hj).1)
                              have g18 : Grew w1 w8 := (G16.trans g7).grown gr8 (fun j hj => ((own_grew OWC.out g7).lt j hj).1)
                              have HO8 : Hid (Ords w8 B m cb E) := Lib.hid (HOW.out.grew (g1.trans g18))
                              have OW8 : Hid (w8.ownsRow w1.heap.size 24 8 (.slice A8 (q + 1) c8) (q + 1) (flatO (E.take q ++ [x]))) := by unfold Hid flatO; rw [List.flatMap_append]; exact own8
                              clear own8 gr8
                              refine wpAny_rest (fun _ _ _ _ _ h => h) [8] (by kernel_rfl) (by kernel_rfl) (by kernel_rfl) (by simp only [pickOps, List.getElem?_toArray, List.getElem?_cons_zero, List.getElem?_cons_succ]; rfl) ?_
                              repeat (first
                                | (refine TakeAll.pure (v := ?_) (by rfl) ?_ ?_; rotate_left; (intro w' g'; go_simp; first | done | with_reducible rfl); (simp only [Act.put, List.setIfInBounds_toArray, List.set_cons_zero, List.set_cons_succ]))
                                | (refine TakeAll.skip (by rfl) ?_; (simp only [Act.put, List.setIfInBounds_toArray, List.set_cons_zero, List.set_cons_succ])))
                              refine TakeAll.nil ?_
                              have r2 : ∀ y, (Instr.slice 22 (.slice B m cb) (some (.int .i64 (q : Int))) none none).run Try.prog y = .ok (.slice (tailA B cb q 8) (m - q) (cb - q)) y := fun y => run_slice_tail y 22 8 elem22 (size22 y) B m cb q .i64 (by omega)
                              have hle8 := g18.le
                              go_wp2_with (at_builtin; refine wpList_append_sl _ rfl (.tmp 102) (.tmp 105) 22 rfl w1.heap.size 24 i0 _ 8 80 Try.underlying22 hi hz0 hz1 hz2 rfl (by decide) (.slice A8 (q + 1) c8) (q + 1) _ rfl OW8.out (tailA B cb q 8) (m - q) (cb - q) _ rfl (HO8.out.1.tail oe_ok (by omega)).2 (flat_one oe_ok _) (by unfold maxLen; omega) (by omega) (by omega) ?_; intro v9 w9 own9 gr9 hat9; obtain ⟨A9, c9, rfl⟩ := own_form own9)
                              have EQ9 : Hid (insO x E = E.take q ++ [x] ++ E.drop q) := by unfold Hid; rw [List.append_assoc]; exact (insO_at HAT.out HST.out).symm
                              have hqm : q + 1 + (m - q) = m + 1 := by omega
                              rw [hqm] at own9
                              have HO9 : Hid (Ords w9 A9 (m + 1) c9 (insO x E)) := by
                                refine ⟨Recs.own (by rw [(insO_perm x E).length_eq, List.length_cons, HO8.out.1.1]) (base := w1.heap.size) (e := 24) ?_, fun y hy => ?_⟩
                                · rw [EQ9.out, List.flatMap_append]; exact own9
                                · rcases List.mem_cons.1 ((insO_perm x E).mem_iff.1 hy) with rfl | hy
                                  · exact WX.out
                                  · exact HO8.out.2 y hy
                              have gE : Grew w w9 := GE8.grown gr9 (fun j hj => Nat.le_trans (GW.out.trans g1).le (OW8.out.lt j hj).1)
                              rw [hqm]
                              clear own9 gr9 hat9 r2
                              go_wp2_with fail
                              go_roundw
                              case rel => exact ⟨k + 1, insO x E, A9, m + 1, c9, by omega, by go_num, rfl, HO9, HI2, gE⟩
                              case measure => simp [intOf]; omega
                        · obtain rfl : q = m := by omega
                          have j2 : decide (q < q) = false := decide_eq_false (by omega)
                          have j3 : decide ((q : Int) < (q : Int)) = false := decide_eq_false (by omega)
                          have HST : Hid (∀ y, E[q]? = some y → ltB y x = false) := fun y hy => by
                            have := (List.getElem?_eq_some_iff.1 hy).1
                            rw [HOB.out.1.1] at this
                            omega
                          go_wp2_with fail
                          refine wp_region_seq (by kernel_rfl) Grew.refl (fun _ _ _ => Grew.trans) (fun _ _ _ _ _ h => h) (by kernel_rfl) ?_
                          repeat (first
                            | (refine TakeAll.pure (v := ?_) (by rfl) ?_ ?_; rotate_left; (intro w' g'; go_simp; first | done | with_reducible rfl); (simp only [Act.put, List.setIfInBounds_toArray, List.set_cons_zero, List.set_cons_succ]))
                            | (refine TakeAll.skip (by rfl) ?_; (simp only [Act.put, List.setIfInBounds_toArray, List.set_cons_zero, List.set_cons_succ])))
                          refine TakeAll.nil ?_
                          intro w6 g6
                          have GI2 := Lib.hid (GI.out.drew.trans g6)
                          clear GI j2 j3 g6
                          have GI := GI2
                          clear GI2
                          obtain ⟨wl, rfl⟩ : ∃ wl : World, wl = w6 := ⟨_, rfl⟩
                          obtain ⟨i0, hi, hz0, hz1, hz2⟩ := info_parts info24
                          have hcap := HOB.out.1.cap
                          have r1 : ∀ y, (Instr.slice 22 (.slice B q cb) none (some (.int .i64 (q : Int))) none).run Try.prog y = .ok (.slice B q cb) y := fun y => run_slice_head y 22 8 elem22 (size22 y) B q cb q .i64 (by omega)
                          have hC : ∀ w', Grew wl.drew w' → w'.cell? ⟨wo.heap.size, 0, none⟩ = some (.int .i64 x.n) ∧ w'.cell? ⟨wo.heap.size, 1, none⟩ = some (.string x.p) ∧ w'.cell? ⟨wo.heap.size, 2, none⟩ = some (.string x.c) ∧ w'.cell? ⟨wo.heap.size, 3, none⟩ = some (.int .i64 x.r) ∧ w'.cell? ⟨wo.heap.size, 4, none⟩ = some (.int .i64 x.k) ∧ w'.cell? ⟨wo.heap.size, 5, none⟩ = some (.int .i64 x.f) ∧ w'.cell? ⟨wo.heap.size, 6, none⟩ = some (.int .i64 x.m) ∧ w'.cell? ⟨wo.heap.size, 7, none⟩ = some (.bool x.fam) := fun w' g' => cells24n (range_grew HRX.out (GI.out.drew.trans g'))
                          have GW := Lib.hid ((G0.out.trans GI.out).drew)
                          have HOW := Lib.hid (HOB.out.grew (GI.out.drew))
                          go_wp2_with fail
                          refine wp_region_G (G := Grew) (by kernel_rfl) Grew.refl 7 ?_
                          refine wpAnyG_takes Grew.refl (fun _ _ _ => Grew.trans) (fun _ _ _ _ _ h => h) [0, 1, 2, 3, 5] (fuel' := 4) (by kernel_rfl) (by kernel_rfl) (by simp only [pickOps, List.getElem?_toArray, List.getElem?_cons_zero, List.getElem?_cons_succ]; rfl) ?_
                          repeat (first
                            | (refine TakeAll.pure (v := ?_) (by rfl) ?_ ?_; rotate_left; (intro w' g'; obtain ⟨c0, c1, c2, c3, c4, c5, c6, c7⟩ := hC w' g'; go_simp; first | done | with_reducible rfl); (simp only [Act.put, List.setIfInBounds_toArray, List.set_cons_zero, List.set_cons_succ]))
                            | (refine TakeAll.skip (by rfl) ?_; (simp only [Act.put, List.setIfInBounds_toArray, List.set_cons_zero, List.set_cons_succ])))
                          refine TakeAll.nil ?_
                          have hlw := GW.out.le
                          refine wpAnyG_two (i := 4) (j := 6) (by kernel_rfl) (fuel' := 3) (by kernel_rfl) (by simp only [pickOps, List.getElem?_toArray, List.getElem?_cons_zero, List.getElem?_cons_succ]; rfl) rfl (by simp only [pickOps, List.getElem?_toArray, List.getElem?_cons_zero, List.getElem?_cons_succ]; rfl) rfl ?_ ?_
                          · intro w1 g1 K hK
                            obtain ⟨v4, w4, run4, own4, gr4, _⟩ := run_append_sl (P := Try.prog) w1 w1.heap.size 22 22 24 i0 _ 8 80 Try.underlying22 hi hz0 hz1 hz2 rfl (by decide) _ 0 _ (World.ownsRow_nil w1 w1.heap.size 24 8) _ q cb (flatO (E.take q)) (((HOW.out.grew g1).1.head oe_ok (by omega) (by omega) (Nat.le_refl _)).2) (flat_one oe_ok _) (by unfold maxLen; omega) (by omega) (Nat.le_refl _)
                            rw [Nat.zero_add, List.nil_append] at own4
                            obtain ⟨A4, c4', rfl⟩ := own_form own4
                            have g4 : Grew w1 w4 := (Grew.refl w1).grown gr4 (by simp [Value.ownBlock])
                            refine wp_append_run w1 (.tmp 94) (.tmp 97) 22 22 rfl rfl rfl run4 ?_
                            refine hK _ _ g4 ?_
                            clear hK K run4 gr4
                            simp only [Act.put, List.setIfInBounds_toArray, List.set_cons_zero, List.set_cons_succ]
                            refine wpAnyG_step (i := 6) (by kernel_rfl) (fuel' := 2) (by kernel_rfl) (by simp only [pickOps, List.getElem?_toArray, List.getElem?_cons_zero, List.getElem?_cons_succ]; rfl) rfl ?_
                            intro w5 g5 K hK
                            go_simp
                            have ga := (Grew.refl w5).alloc (.cells #[.int .i64 x.n, .string x.p, .string x.c, .int .i64 x.r, .int .i64 x.k, .int .i64 x.f, .int .i64 x.m, .bool x.fam] 24)
                            refine hK _ _ ga ?_
                            clear hK K
                            have BI := Lib.hid (Recs.built (w := w5) oe_ok (t := 24) (l := [x]) (n := 1) #[.int .i64 x.n, .string x.p, .string x.c, .int .i64 x.r, .int .i64 x.k, .int .i64 x.f, .int .i64 x.m, .bool x.fam] rfl rfl (by decide))
                            obtain ⟨w6, hw6⟩ : ∃ y, y = w5.alloc (.cells #[.int .i64 x.n, .string x.p, .string x.c, .int .i64 x.r, .int .i64 x.k, .int .i64 x.f, .int .i64 x.m, .bool x.fam] 24) := ⟨_, rfl⟩
                            rw [← hw6] at BI ga ⊢
                            obtain ⟨z6, hz6⟩ : ∃ z, z = w5.heap.size := ⟨_, rfl⟩
                            rw [← hz6] at BI ⊢
                            clear hw6 hz6
                            have OWC := Lib.hid (own_grew (own_grew own4 g5) ga)
                            have G16 : Grew w1 w6 := (g4.trans g5).trans ga
                            have GALL : Grew w w6 := (GW.out.trans g1).trans G16
                            have HO6 := Lib.hid (HOW.out.grew (g1.trans G16))
                            have hsz := G16.le
                            clear own4 g4 g5 ga hC
                            refine wpAnyG_end (by kernel_rfl) (fuel' := 1) (by kernel_rfl) (by simp only [pickOps, List.getElem?_toArray, List.getElem?_cons_zero, List.getElem?_cons_succ]; rfl) rfl ?_
                            intro w7 g7 K hK
                            obtain ⟨v8, w8, run8, own8, gr8, _⟩ := run_append_sl (P := Try.prog) w7 w1.heap.size 22 22 24 i0 _ 8 80 Try.underlying22 hi hz0 hz1 hz2 rfl (by decide) _ q _ (own_grew OWC.out g7) _ 1 1 (flatO [x]) (BI.out.2.grew g7) (flat_one oe_ok _) (by unfold maxLen; omega) (by omega) (Nat.le_trans hsz g7.le)
                            obtain ⟨A8, c8, rfl⟩ := own_form own8
                            refine wp_append_run w7 (.tmp 98) (.tmp 100) 22 22 rfl rfl rfl run8 ?_
                            refine hK _ _ ?_
                            clear hK K run8
                            simp only [Act.put, List.setIfInBounds_toArray, List.set_cons_zero, List.set_cons_succ]
                            have GE8 : Grew w w8 := (GALL.trans g7).grown gr8 (fun j hj => Nat.le_trans (GW.out.trans g1).le ((own_grew OWC.out g7).lt j hj).1)
                            have g18 : Grew w1 w8 := (G16.trans g7).grown gr8 (fun j hj => ((own_grew OWC.out g7).lt j hj).1)
                            have HO8 : Hid (Ords w8 B q cb E) := Lib.hid (HOW.out.grew (g1.trans g18))
                            have OW8 : Hid (w8.ownsRow w1.heap.size 24 8 (.slice A8 (q + 1) c8) (q + 1) (flatO (E.take q ++ [x]))) := by unfold Hid flatO; rw [List.flatMap_append]; exact own8
                            clear own8 gr8
                            refine wpAny_rest (fun _ _ _ _ _ h => h) [8] (by kernel_rfl) (by kernel_rfl) (by kernel_rfl) (by simp only [pickOps, List.getElem?_toArray, List.getElem?_cons_zero, List.getElem?_cons_succ]; rfl) ?_
                            repeat (first
                              | (refine TakeAll.pure (v := ?_) (by rfl) ?_ ?_; rotate_left; (intro w' g'; go_simp; first | done | with_reducible rfl); (simp only [Act.put, List.setIfInBounds_toArray, List.set_cons_zero, List.set_cons_succ]))
                              | (refine TakeAll.skip (by rfl) ?_; (simp only [Act.put, List.setIfInBounds_toArray, List.set_cons_zero, List.set_cons_succ])))
                            refine TakeAll.nil ?_
                            have r2 : ∀ y, (Instr.slice 22 (.slice B q cb) (some (.int .i64 (q : Int))) none none).run Try.prog y = .ok (.slice (tailA B cb q 8) 0 (cb - q)) y := fun y => by have := run_slice_tail y 22 8 elem22 (size22 y) B q cb q .i64 (Nat.le_refl q); rwa [Nat.sub_self] at this
                            have hle8 := g18.le
                            go_wp2_with (at_builtin; refine wpList_append_sl _ rfl (.tmp 102) (.tmp 105) 22 rfl w1.heap.size 24 i0 _ 8 80 Try.underlying22 hi hz0 hz1 hz2 rfl (by decide) (.slice A8 (q + 1) c8) (q + 1) _ rfl OW8.out (tailA B cb q 8) 0 (cb - q) _ rfl (by have := (HO8.out.1.tail oe_ok (Nat.le_refl q)).2; rwa [Nat.sub_self] at this) (flat_one oe_ok _) (by unfold maxLen; omega) (by omega) (by omega) ?_; intro v9 w9 own9 gr9 hat9; obtain ⟨A9, c9, rfl⟩ := own_form own9)
                            have EQ9 : Hid (insO x E = E.take q ++ [x] ++ E.drop q) := by unfold Hid; rw [List.append_assoc]; exact (insO_at HAT.out HST.out).symm
                            have hqm : q + 1 + 0 = q + 1 := by omega
                            rw [hqm] at own9
                            have HO9 : Hid (Ords w9 A9 (q + 1) c9 (insO x E)) := by
                              refine ⟨Recs.own (by rw [(insO_perm x E).length_eq, List.length_cons, HO8.out.1.1]) (base := w1.heap.size) (e := 24) ?_, fun y hy => ?_⟩
                              · rw [EQ9.out, List.flatMap_append]; exact own9
                              · rcases List.mem_cons.1 ((insO_perm x E).mem_iff.1 hy) with rfl | hy
                                · exact WX.out
                                · exact HO8.out.2 y hy
                            have gE : Grew w w9 := GE8.grown gr9 (fun j hj => Nat.le_trans (GW.out.trans g1).le (OW8.out.lt j hj).1)
                            try rw [hqm]
                            clear own9 gr9 hat9 r2
                            go_wp2_with fail
                            go_roundw
                            case rel => exact ⟨k + 1, insO x E, A9, q + 1, c9, by omega, by go_num, rfl, HO9, HI2, gE⟩
                            case measure => simp [intOf]; omega
                          · intro w1 g1 K hK
                            go_simp
                            have ga := (Grew.refl w1).alloc (.cells #[.int .i64 x.n, .string x.p, .string x.c, .int .i64 x.r, .int .i64 x.k, .int .i64 x.f, .int .i64 x.m, .bool x.fam] 24)
                            refine hK _ _ ga ?_
                            clear hK K
                            have BI0 := Lib.hid (Recs.built (w := w1) oe_ok (t := 24) (l := [x]) (n := 1) #[.int .i64 x.n, .string x.p, .string x.c, .int .i64 x.r, .int .i64 x.k, .int .i64 x.f, .int .i64 x.m, .bool x.fam] rfl rfl (by decide))
                            obtain ⟨w5, hw5⟩ : ∃ y, y = w1.alloc (.cells #[.int .i64 x.n, .string x.p, .string x.c, .int .i64 x.r, .int .i64 x.k, .int .i64 x.f, .int .i64 x.m, .bool x.fam] 24) := ⟨_, rfl⟩
                            rw [← hw5] at BI0 ga ⊢
                            obtain ⟨z6, hz6⟩ : ∃ z, z = w1.heap.size := ⟨_, rfl⟩
                            rw [← hz6] at BI0 ⊢
                            clear hw5 hz6
                            refine wpAnyG_step (i := 4) (by kernel_rfl) (fuel' := 2) (by kernel_rfl) (by simp only [pickOps, List.getElem?_toArray, List.getElem?_cons_zero, List.getElem?_cons_succ]; rfl) rfl ?_
                            intro w4 g4 K hK
                            have G14 : Grew w1 w4 := ga.trans g4
                            have hle14 := G14.le
                            obtain ⟨v4, w6, run4, own4, gr4, _⟩ := run_append_sl (P := Try.prog) w4 w1.heap.size 22 22 24 i0 _ 8 80 Try.underlying22 hi hz0 hz1 hz2 rfl (by decide) _ 0 _ (World.ownsRow_nil w4 w1.heap.size 24 8) _ q cb (flatO (E.take q)) (((HOW.out.grew (g1.trans G14)).1.head oe_ok (by omega) (by omega) (Nat.le_refl _)).2) (flat_one oe_ok _) (by unfold maxLen; omega) (by omega) hle14
                            rw [Nat.zero_add, List.nil_append] at own4
                            obtain ⟨A4, c4', rfl⟩ := own_form own4
                            have g6 : Grew w4 w6 := (Grew.refl w4).grown gr4 (by simp [Value.ownBlock])
                            refine wp_append_run w4 (.tmp 94) (.tmp 97) 22 22 rfl rfl rfl run4 ?_
                            refine hK _ _ g6 ?_
                            clear hK K run4 gr4
                            simp only [Act.put, List.setIfInBounds_toArray, List.set_cons_zero, List.set_cons_succ]
                            have OWC := Lib.hid own4
                            have BI := Lib.hid (BI0.out.grew (g4.trans g6))
                            have G16 : Grew w1 w6 := G14.trans g6
                            have GALL : Grew w w6 := (GW.out.trans g1).trans G16
                            have HO6 := Lib.hid (HOW.out.grew (g1.trans G16))
                            have hsz := G16.le
                            clear own4 g4 g6 ga hC BI0 G14
                            refine wpAnyG_end (by kernel_rfl) (fuel' := 1) (by kernel_rfl) (by simp only [pickOps, List.getElem?_toArray, List.getElem?_cons_zero, List.getElem?_cons_succ]; rfl) rfl ?_
                            intro w7 g7 K hK
                            obtain ⟨v8, w8, run8, own8, gr8, _⟩ := run_append_sl (P := Try.prog) w7 w1.heap.size 22 22 24 i0 _ 8 80 Try.underlying22 hi hz0 hz1 hz2 rfl (by decide) _ q _ (own_grew OWC.out g7) _ 1 1 (flatO [x]) (BI.out.2.grew g7) (flat_one oe_ok _) (by unfold maxLen; omega) (by omega) (Nat.le_trans hsz g7.le)
                            obtain ⟨A8, c8, rfl⟩ := own_form own8
                            refine wp_append_run w7 (.tmp 98) (.tmp 100) 22 22 rfl rfl rfl run8 ?_
                            refine hK _ _ ?_
                            clear hK K run8
                            simp only [Act.put, List.setIfInBounds_toArray, List.set_cons_zero, List.set_cons_succ]
                            have GE8 : Grew w w8 := (GALL.trans g7).grown gr8 (fun j hj => Nat.le_trans (GW.out.trans g1).le ((own_grew OWC.out g7).lt j hj).1)
                            have g18 : Grew w1 w8 := (G16.trans g7).grown gr8 (fun j hj => ((own_grew OWC.out g7).lt j hj).1)
                            have HO8 : Hid (Ords w8 B q cb E) := Lib.hid (HOW.out.grew (g1.trans g18))
                            have OW8 : Hid (w8.ownsRow w1.heap.size 24 8 (.slice A8 (q + 1) c8) (q + 1) (flatO (E.take q ++ [x]))) := by unfold Hid flatO; rw [List.flatMap_append]; exact own8
                            clear own8 gr8
                            refine wpAny_rest (fun _ _ _ _ _ h => h) [8] (by kernel_rfl) (by kernel_rfl) (by kernel_rfl) (by simp only [pickOps, List.getElem?_toArray, List.getElem?_cons_zero, List.getElem?_cons_succ]; rfl) ?_
                            repeat (first
                              | (refine TakeAll.pure (v := ?_) (by rfl) ?_ ?_; rotate_left; (intro w' g'; go_simp; first | done | with_reducible rfl); (simp only [Act.put, List.setIfInBounds_toArray, List.set_cons_zero, List.set_cons_succ]))
                              | (refine TakeAll.skip (by rfl) ?_; (simp only [Act.put, List.setIfInBounds_toArray, List.set_cons_zero, List.set_cons_succ])))
                            refine TakeAll.nil ?_
                            have r2 : ∀ y, (Instr.slice 22 (.slice B q cb) (some (.int .i64 (q : Int))) none none).run Try.prog y = .ok (.slice (tailA B cb q 8) 0 (cb - q)) y := fun y => by have := run_slice_tail y 22 8 elem22 (size22 y) B q cb q .i64 (Nat.le_refl q); rwa [Nat.sub_self] at this
                            have hle8 := g18.le
                            go_wp2_with (at_builtin; refine wpList_append_sl _ rfl (.tmp 102) (.tmp 105) 22 rfl w1.heap.size 24 i0 _ 8 80 Try.underlying22 hi hz0 hz1 hz2 rfl (by decide) (.slice A8 (q + 1) c8) (q + 1) _ rfl OW8.out (tailA B cb q 8) 0 (cb - q) _ rfl (by have := (HO8.out.1.tail oe_ok (Nat.le_refl q)).2; rwa [Nat.sub_self] at this) (flat_one oe_ok _) (by unfold maxLen; omega) (by omega) (by omega) ?_; intro v9 w9 own9 gr9 hat9; obtain ⟨A9, c9, rfl⟩ := own_form own9)
                            have EQ9 : Hid (insO x E = E.take q ++ [x] ++ E.drop q) := by unfold Hid; rw [List.append_assoc]; exact (insO_at HAT.out HST.out).symm
                            have hqm : q + 1 + 0 = q + 1 := by omega
                            rw [hqm] at own9
                            have HO9 : Hid (Ords w9 A9 (q + 1) c9 (insO x E)) := by
                              refine ⟨Recs.own (by rw [(insO_perm x E).length_eq, List.length_cons, HO8.out.1.1]) (base := w1.heap.size) (e := 24) ?_, fun y hy => ?_⟩
                              · rw [EQ9.out, List.flatMap_append]; exact own9
                              · rcases List.mem_cons.1 ((insO_perm x E).mem_iff.1 hy) with rfl | hy
                                · exact WX.out
                                · exact HO8.out.2 y hy
                            have gE : Grew w w9 := GE8.grown gr9 (fun j hj => Nat.le_trans (GW.out.trans g1).le (OW8.out.lt j hj).1)
                            try rw [hqm]
                            clear own9 gr9 hat9 r2
                            go_wp2_with fail
                            go_roundw
                            case rel => exact ⟨k + 1, insO x E, A9, q + 1, c9, by omega, by go_num, rfl, HO9, HI2, gE⟩
                            case measure => simp [intOf]; omega
            · have qf : decide (mo < x.f) = true := decide_eq_true (by omega)
              have HI2 := Lib.hid (opI_skip HI.out HX.out (fun h => by have := h.2.2.1; unfold opB at this; rw [decide_eq_false hxf] at this; simp at this))
              clear hxp hxk hxf
              have gE : Grew w wa := hg.trans ga
              have HO2 := Lib.hid (HO.out.grew ga)
              go_upto_region 8 with (fail)
              rw [← hwa]
              clear hwa c0 c1 c2 c3 c4 c5 c6 c7
              go_wp2_with fail
              go_roundw
              case rel => exact ⟨k + 1, E, B, m, cb, by omega, by go_num, rfl, HO2, HI2, gE⟩
              case measure => simp [intOf]; omega
          · have qk : decide (kn < x.k) = true := decide_eq_true (by omega)
            have HI2 := Lib.hid (opI_skip HI.out HX.out (fun h => hxk h.2.1))
            clear hxp hxk
            have gE : Grew w wa := hg.trans ga
            have HO2 := Lib.hid (HO.out.grew ga)
            go_upto_region 8 with (fail)
            rw [← hwa]
            clear hwa c0 c1 c2 c3 c4 c5 c6 c7
            go_wp2_with fail
            go_roundw
            case rel => exact ⟨k + 1, E, B, m, cb, by omega, by go_num, rfl, HO2, HI2, gE⟩
            case measure => simp [intOf]; omega
        · have qp : (x.p.toList == p.toList) = false := by rw [str_eq]; exact decide_eq_false hxp
          have qp' : (x.p.toList != p.toList) = true := by unfold bne; rw [qp]; rfl
          have HI2 := Lib.hid (opI_skip HI.out HX.out (fun h => hxp h.1))
          clear hxp
          have gE : Grew w wa := hg.trans ga
          have HO2 := Lib.hid (HO.out.grew ga)
          go_upto_region 8 with (fail)
          rw [← hwa]
          clear hwa c0 c1 c2 c3 c4 c5 c6 c7
          go_wp2_with fail
          go_roundw
          case rel => exact ⟨k + 1, E, B, m, cb, by omega, by go_num, rfl, HO2, HI2, gE⟩
          case measure => simp [intOf]; omega
      · have HE : Hid (E = openL l p mo kn) := opI_all HVL.out (by have := HI.out; rwa [show k = l.length by rw [HL.out]; omega] at this)
        go_wp2_with fail
        go_ret
        exact ⟨B, m, cb, rfl, by rw [← HE.out]; exact HO.out, hg⟩
theorem ropen_val {A : Option Addr} {n c : Nat} {l r : List Ord} {p : ByteArray} {mo kn : Int} {w : World} (h : Ords w A n c l) (hn : n ≤ 410) (hr : openL l p mo kn = r) : Calls Try.prog 18 #[.slice A n c, .string p, .int .i64 mo, .int .i64 kn] w (RetA r w) := by subst hr; exact ropen_any A n c l p mo kn w h hn
end Go.Proofs.Ytjpnodmcglcihaa
