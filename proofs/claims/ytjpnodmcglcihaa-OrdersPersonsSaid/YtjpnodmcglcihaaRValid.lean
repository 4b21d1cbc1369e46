/-
  The reference's Valid.
-/
import Derived.Test.YtjpnodmcglcihaaSameO
namespace Go.Proofs.Ytjpnodmcglcihaa
open Go.RowKit Go.Proofs WageMem WageOrd WageRec WageMap WageReg

theorem cnt_take (l : List Ord) (p : ByteArray) (m : Nat) : ∀ i, i ≤ m → cnt (l.take m) p i = cnt l p i
  | 0, _ => rfl
  | i + 1, h => by
    unfold cnt
    rw [cnt_take l p m i (by omega), List.getElem?_take, if_pos (by omega), List.take_take, Nat.min_eq_left (by omega)]
theorem cnt_ok {l : List Ord} (p : ByteArray) : ∀ {k : Nat}, okB l k = true → cnt l p k ≤ 16
  | 0, _ => by simp [cnt]
  | k + 1, h => by
    have h0 := okB_le h (show k ≤ k + 1 by omega)
    have ih := cnt_ok p h0
    unfold cnt
    cases hx : l[k]? with
    | none => simp only; omega
    | some x =>
      simp only
      by_cases hp : x.p = p
      · have hg := okB_at h (show k < k + 1 by omega) hx
        unfold goodB at hg
        simp only [Bool.and_eq_true, decide_eq_true_eq] at hg
        have := hg.2
        rw [hp] at this
        unfold cnt at this
        simp only [hx] at this
        exact this
      · simp [hp]; omega
theorem cnt_old {l : List Ord} {k : Nat} {x : Ord} (hx : l[k]? = some x) (hn : noneTo l x.n k = false) (p : ByteArray) : cnt l p (k + 1) = cnt l p k := by
  have := cnt_succ (p := p) hx
  rw [hn, Bool.and_false] at this
  simp at this
  omega

theorem size22 (w : World) : (Go.sizeOf (Try.prog.elem 22)).run Try.prog w = .ok 8 w := by kernel_rfl
theorem elem22 : Try.prog.underlying 22 = some (.slice (Try.prog.elem 22)) := by kernel_rfl
theorem fits_bad_at {l : List Ord} {o x : Ord} {q k : Nat} (hx : l[q]? = some x) (hq : q < k) (hf : fitB x o = false) : fitsB l k o = false := by
  unfold fitsB
  rw [Bool.eq_false_iff]
  intro h
  rw [List.all_eq_true] at h
  have := h x (List.mem_iff_getElem?.2 ⟨q, by rw [List.getElem?_take, if_pos hq]; exact hx⟩)
  rw [hf] at this
  cases this

set_option maxRecDepth 100000 in
set_option maxHeartbeats 16000000 in
theorem rvalid_any (A : Option Addr) (n c : Nat) (l : List Ord) (w : World) (h : Ords w A n c l) :
    Calls Try.prog 15 #[.slice A n c] w fun r w' => r = .returned (.bool (validB l)) ∧ Grew w w' := by
  have HH := Lib.hid h
  have hn := h.1.le
  have hcap := h.1.cap
  have hcm : c ≤ 9223372036854775807 := h.1.2.2.1
  have HL := Lib.hid h.1.1
  clear h
  by_cases hbig : 400 < n
  · have q1 : decide (400 < (n : Int)) = true := decide_eq_true (by omega)
    have HV : Hid (validB l = false) := by unfold Hid validB; rw [HL.out, decide_eq_false (by omega)]; rfl
    go_enter Try.func15, Try.ntmps15
    go_wp2_with fail
    go_ret
    exact ⟨ret_bool HV.out.symm, Grew.refl _⟩
  · have q1 : decide (400 < (n : Int)) = false := decide_eq_false (by omega)
    have HF : Hid (okB l n = false → Hid (validB l = false)) := fun h => by unfold Hid validB; rw [HL.out, h]; simp
    have HT : Hid (okB l n = true → Hid (validB l = true)) := fun h => by unfold Hid validB; rw [HL.out, h, decide_eq_true (by omega)]; rfl
    go_enter Try.func15, Try.ntmps15
    go_wp2_with fail
    go_loopw [3] (fun i wr => ∃ k : Nat, k ≤ n ∧ i = .int .i64 k ∧ Hid (okB l k = true) ∧ Grew w wr) (fun i _ => n - (intOf i).toNat)
    case atStart => exact ⟨0, Nat.zero_le _, rfl, rfl, Grew.refl _⟩
    case round =>
      obtain ⟨k, hk, rfl, HOK, hg⟩ := hrel
      by_cases hlt : k < n
      · obtain ⟨b, o, x, rfl, hx, hr⟩ := (HH.out.1.grew hg.drew).at_ oe_ok hlt
        have HX := Lib.hid hx
        have HS := Lib.hid (HH.out.2 x (List.mem_of_getElem? hx))
        have i0 : (0 : Int) ≤ (k : Int) := by omega
        have i1 : (k : Int) < (n : Int) := by omega
        have HR := Lib.hid hr
        have hC : ∀ w', Grew wr.drew w' → w'.cell? ⟨b, o + k * 8, none⟩ = some (.int .i64 x.n) ∧ w'.cell? ⟨b, o + k * 8 + 1, none⟩ = some (.string x.p) ∧ w'.cell? ⟨b, o + k * 8 + 2, none⟩ = some (.string x.c) ∧ w'.cell? ⟨b, o + k * 8 + 3, none⟩ = some (.int .i64 x.r) ∧ w'.cell? ⟨b, o + k * 8 + 4, none⟩ = some (.int .i64 x.k) ∧ w'.cell? ⟨b, o + k * 8 + 5, none⟩ = some (.int .i64 x.f) ∧ w'.cell? ⟨b, o + k * 8 + 6, none⟩ = some (.int .i64 x.m) ∧ w'.cell? ⟨b, o + k * 8 + 7, none⟩ = some (.bool x.fam) := fun w' g' => cells24 (range_grew HR.out g')
        clear hx hr
        cases hf : formB x with
        | false =>
          have HFM := Lib.hid hf
          have HB := HF.out (okB_bad HX.out (by unfold goodB; rw [hf]; rfl) hlt)
          clear hf
          go_wp2_with fail
          refine wp_region_seq (by kernel_rfl) Grew.refl (fun _ _ _ => Grew.trans) (fun _ _ _ _ _ h => h) (by kernel_rfl) ?_
          repeat (first
            | (refine TakeAll.pure (v := ?_) (by rfl) ?_ ?_; rotate_left; (intro w' g'; obtain ⟨c0, c1, c2, c3, c4, c5, c6, c7⟩ := hC w' g'; go_simp; first | done | with_reducible rfl); (simp only [Act.put, List.setIfInBounds_toArray, List.set_cons_zero, List.set_cons_succ]))
            | (refine TakeAll.skip (by rfl) ?_; (simp only [Act.put, List.setIfInBounds_toArray, List.set_cons_zero, List.set_cons_succ])))
          refine TakeAll.call (by rfl) 22 _ (fun _ => by go_simp; first | done | rfl) (fun w' g' => rformed_val HFM.out HS.out.1 HS.out.2.1 w') ?_
          simp only [Act.put, List.setIfInBounds_toArray, List.set_cons_zero, List.set_cons_succ]
          repeat (first
            | (refine TakeAll.pure (v := ?_) (by rfl) ?_ ?_; rotate_left; (intro w' g'; obtain ⟨c0, c1, c2, c3, c4, c5, c6, c7⟩ := hC w' g'; go_simp; first | done | with_reducible rfl); (simp only [Act.put, List.setIfInBounds_toArray, List.set_cons_zero, List.set_cons_succ]))
            | (refine TakeAll.skip (by rfl) ?_; (simp only [Act.put, List.setIfInBounds_toArray, List.set_cons_zero, List.set_cons_succ])))
          refine TakeAll.nil ?_
          intro w5 g5
          have gE := (hg.drew).trans g5
          clear hC
          go_wp2_with fail
          go_ret
          exact ⟨ret_bool HB.out.symm, gE⟩
        | true =>
          have HFM := Lib.hid hf
          clear hf
          have hpc : (k = 0 ∧ Hid (prevB l k x = true)) ∨ ∃ y, 0 < k ∧ wr.drew.cell? ⟨b, o + (k - 1) * 8 + 4, none⟩ = some (.int .i64 y) ∧ Hid (prevB l k x = decide (y ≤ x.k)) := by
            by_cases hk0 : k = 0
            · exact .inl ⟨hk0, by subst hk0; exact prev_zero⟩
            · obtain ⟨b', o', y, ey, hy, hry⟩ := (HH.out.1.grew hg.drew).at_ oe_ok (show k - 1 < n by omega)
              injection ey with ey
              injection ey with ey ey2
              subst ey ey2
              exact .inr ⟨y.k, by omega, hry 4 _ rfl, prev_at (by omega) hy⟩
          rcases hpc with ⟨hk0, HPV⟩ | ⟨y, hk0, d4, HPV⟩
          · have t1 : decide (0 < (k : Int)) = false := decide_eq_false (by omega)
            have t2 : decide (0 < k) = false := decide_eq_false (by omega)
            clear hk0
            go_wp2_with fail
            refine wp_region_seq (by kernel_rfl) Grew.refl (fun _ _ _ => Grew.trans) (fun _ _ _ _ _ h => h) (by kernel_rfl) ?_
            repeat (first
              | (refine TakeAll.pure (v := ?_) (by rfl) ?_ ?_; rotate_left; (intro w' g'; obtain ⟨c0, c1, c2, c3, c4, c5, c6, c7⟩ := hC w' g'; go_simp; first | done | with_reducible rfl); (simp only [Act.put, List.setIfInBounds_toArray, List.set_cons_zero, List.set_cons_succ]))
              | (refine TakeAll.skip (by rfl) ?_; (simp only [Act.put, List.setIfInBounds_toArray, List.set_cons_zero, List.set_cons_succ])))
            refine TakeAll.call (by rfl) 22 _ (fun _ => by go_simp; first | done | rfl) (fun w' g' => rformed_val HFM.out HS.out.1 HS.out.2.1 w') ?_
            simp only [Act.put, List.setIfInBounds_toArray, List.set_cons_zero, List.set_cons_succ]
            repeat (first
              | (refine TakeAll.pure (v := ?_) (by rfl) ?_ ?_; rotate_left; (intro w' g'; obtain ⟨c0, c1, c2, c3, c4, c5, c6, c7⟩ := hC w' g'; go_simp; first | done | with_reducible rfl); (simp only [Act.put, List.setIfInBounds_toArray, List.set_cons_zero, List.set_cons_succ]))
              | (refine TakeAll.skip (by rfl) ?_; (simp only [Act.put, List.setIfInBounds_toArray, List.set_cons_zero, List.set_cons_succ])))
            refine TakeAll.nil ?_
            intro w5 g5
            clear hC t1 t2
            have G5 := Lib.hid ((hg.drew).trans g5)
            have HR5 := Lib.hid (range_grew HR.out g5)
            clear HR g5 hg
            obtain ⟨wo, hwo⟩ : ∃ wo : World, wo = w5 := ⟨_, rfl⟩
            subst hwo
            go_wp2_with fail
            go_loopw [4, 5] (fun f j y => ∃ (q : Nat) (t : Bool), q ≤ k ∧ j = .int .i64 q ∧ f = .bool t ∧ Hid (t = noneTo l x.n q) ∧ Hid (fitsB l q x = true) ∧ Grew wo y) (fun _ j _ => k - (intOf j).toNat)
            case atStart => exact ⟨0, true, Nat.zero_le _, rfl, rfl, rfl, rfl, Grew.refl _⟩
            case round =>
              obtain ⟨wi, rfl⟩ : ∃ wi : World, wi = wr := ⟨_, rfl⟩
              obtain ⟨q, t, hq, rfl, rfl, HTT, HFT, hgi⟩ := hrel
              by_cases hqk : q < k
              · obtain ⟨b', o', y, ey, hy, hry⟩ := (HH.out.1.grew ((G5.out.trans hgi).drew)).at_ oe_ok (show q < n by omega)
                injection ey with ey
                injection ey with ey ey2
                subst ey ey2
                have HY := Lib.hid hy
                have HRY := Lib.hid hry
                have j0 : (0 : Int) ≤ (q : Int) := by omega
                have j1 : (q : Int) < (n : Int) := by omega
                have j2 : decide (q < k) = true := decide_eq_true hqk
                have j3 : decide ((q : Int) < (k : Int)) = true := decide_eq_true (by omega)
                have hC : ∀ w', Grew wi.drew w' → w'.cell? ⟨b, o + k * 8, none⟩ = some (.int .i64 x.n) ∧ w'.cell? ⟨b, o + k * 8 + 1, none⟩ = some (.string x.p) ∧ w'.cell? ⟨b, o + k * 8 + 2, none⟩ = some (.string x.c) ∧ w'.cell? ⟨b, o + q * 8, none⟩ = some (.int .i64 y.n) ∧ w'.cell? ⟨b, o + q * 8 + 1, none⟩ = some (.string y.p) ∧ w'.cell? ⟨b, o + q * 8 + 2, none⟩ = some (.string y.c) := fun w' g' => ⟨range_grew HR5.out ((hgi.drew).trans g') 0 _ rfl, range_grew HR5.out ((hgi.drew).trans g') 1 _ rfl, range_grew HR5.out ((hgi.drew).trans g') 2 _ rfl, range_grew HRY.out g' 0 _ rfl, range_grew HRY.out g' 1 _ rfl, range_grew HRY.out g' 2 _ rfl⟩
                clear hy hry
                by_cases e1 : y.n = x.n
                · have r1 : (y.n == x.n) = true := by rw [beq_iff_eq]; exact e1
                  have r1' : (y.n != x.n) = false := by rw [bne_eq_false_iff_eq]; exact e1
                  by_cases e2 : y.p = x.p
                  · have r2 : (y.p.toList == x.p.toList) = true := by rw [str_eq]; exact decide_eq_true e2
                    by_cases e3 : y.c = x.c
                    · have r3 : (y.c.toList == x.c.toList) = true := by rw [str_eq]; exact decide_eq_true e3
                      have HFT' := Lib.hid (fits_to HFT.out HY.out (by unfold fitB; rw [decide_eq_true e2, decide_eq_true e3]; simp))
                      have HN : Hid (false = noneTo l x.n (q + 1)) := by unfold Hid; rw [noneTo_succ HY.out, r1']; simp
                      clear e1 e2 e3
                      go_wp2_with fail
                      refine wp_region_seq (by kernel_rfl) Grew.refl (fun _ _ _ => Grew.trans) (fun _ _ _ _ _ h => h) (by kernel_rfl) ?_
                      repeat (first
                        | (refine TakeAll.pure (v := ?_) (by rfl) ?_ ?_; rotate_left; (intro w' g'; obtain ⟨c0, c1, c2, d0, d1, d2⟩ := hC w' g'; go_simp; first | done | with_reducible rfl); (simp only [Act.put, List.setIfInBounds_toArray, List.set_cons_zero, List.set_cons_succ]))
                        | (refine TakeAll.skip (by rfl) ?_; (simp only [Act.put, List.setIfInBounds_toArray, List.set_cons_zero, List.set_cons_succ])))
                      refine TakeAll.nil ?_
                      intro w6 g6
                      have hC6 : ∀ w', Grew w6.drew w' → w'.cell? ⟨b, o + k * 8, none⟩ = some (.int .i64 x.n) ∧ w'.cell? ⟨b, o + k * 8 + 1, none⟩ = some (.string x.p) ∧ w'.cell? ⟨b, o + k * 8 + 2, none⟩ = some (.string x.c) ∧ w'.cell? ⟨b, o + q * 8, none⟩ = some (.int .i64 y.n) ∧ w'.cell? ⟨b, o + q * 8 + 1, none⟩ = some (.string y.p) ∧ w'.cell? ⟨b, o + q * 8 + 2, none⟩ = some (.string y.c) := fun w' g' => hC w' ((g6.drew).trans g')
                      have G6 := Lib.hid ((hgi.drew).trans (g6.drew))
                      clear hC g6
                      cases t with
                      | true =>
                        go_wp2_with fail
                        refine wp_region_seq (by kernel_rfl) Grew.refl (fun _ _ _ => Grew.trans) (fun _ _ _ _ _ h => h) (by kernel_rfl) ?_
                        repeat (first
                          | (refine TakeAll.pure (v := ?_) (by rfl) ?_ ?_; rotate_left; (intro w' g'; obtain ⟨c0, c1, c2, d0, d1, d2⟩ := hC6 w' g'; go_simp; first | done | with_reducible rfl); (simp only [Act.put, List.setIfInBounds_toArray, List.set_cons_zero, List.set_cons_succ]))
                          | (refine TakeAll.skip (by rfl) ?_; (simp only [Act.put, List.setIfInBounds_toArray, List.set_cons_zero, List.set_cons_succ])))
                        refine TakeAll.nil ?_
                        intro w7 g7
                        have gE := G6.out.trans g7
                        clear hC6
                        go_wp2_with fail
                        go_roundw
                        case rel => exact ⟨q + 1, false, by omega, by go_num, rfl, HN, HFT', gE⟩
                        case measure => simp [intOf]; omega
                      | false =>
                        go_wp2_with fail
                        refine wp_region_seq (by kernel_rfl) Grew.refl (fun _ _ _ => Grew.trans) (fun _ _ _ _ _ h => h) (by kernel_rfl) ?_
                        repeat (first
                          | (refine TakeAll.pure (v := ?_) (by rfl) ?_ ?_; rotate_left; (intro w' g'; obtain ⟨c0, c1, c2, d0, d1, d2⟩ := hC6 w' g'; go_simp; first | done | with_reducible rfl); (simp only [Act.put, List.setIfInBounds_toArray, List.set_cons_zero, List.set_cons_succ]))
                          | (refine TakeAll.skip (by rfl) ?_; (simp only [Act.put, List.setIfInBounds_toArray, List.set_cons_zero, List.set_cons_succ])))
                        refine TakeAll.nil ?_
                        intro w7 g7
                        have gE := G6.out.trans g7
                        clear hC6
                        go_wp2_with fail
                        go_roundw
                        case rel => exact ⟨q + 1, false, by omega, by go_num, rfl, HN, HFT', gE⟩
                        case measure => simp [intOf]; omega
                    · have r3 : (y.c.toList == x.c.toList) = false := by rw [str_eq]; exact decide_eq_false e3
                      have HB := HF.out (okB_bad HX.out (by unfold goodB; rw [fits_bad_at HY.out hqk (by unfold fitB; rw [decide_eq_false e3, e1]; simp)]; simp) hlt)
                      clear e1 e2 e3
                      go_wp2_with fail
                      refine wp_region_seq (by kernel_rfl) Grew.refl (fun _ _ _ => Grew.trans) (fun _ _ _ _ _ h => h) (by kernel_rfl) ?_
                      repeat (first
                        | (refine TakeAll.pure (v := ?_) (by rfl) ?_ ?_; rotate_left; (intro w' g'; obtain ⟨c0, c1, c2, d0, d1, d2⟩ := hC w' g'; go_simp; first | done | with_reducible rfl); (simp only [Act.put, List.setIfInBounds_toArray, List.set_cons_zero, List.set_cons_succ]))
                        | (refine TakeAll.skip (by rfl) ?_; (simp only [Act.put, List.setIfInBounds_toArray, List.set_cons_zero, List.set_cons_succ])))
                      refine TakeAll.nil ?_
                      intro w6 g6
                      have gE := ((G5.out.trans hgi).drew).trans g6
                      clear hC
                      go_wp2_with fail
                      go_ret
                      exact ⟨ret_bool HB.out.symm, gE⟩
                  · have r2 : (y.p.toList == x.p.toList) = false := by rw [str_eq]; exact decide_eq_false e2
                    have HB := HF.out (okB_bad HX.out (by unfold goodB; rw [fits_bad_at HY.out hqk (by unfold fitB; rw [decide_eq_false e2, e1]; simp)]; simp) hlt)
                    clear e1 e2
                    go_wp2_with fail
                    refine wp_region_seq (by kernel_rfl) Grew.refl (fun _ _ _ => Grew.trans) (fun _ _ _ _ _ h => h) (by kernel_rfl) ?_
                    repeat (first
                      | (refine TakeAll.pure (v := ?_) (by rfl) ?_ ?_; rotate_left; (intro w' g'; obtain ⟨c0, c1, c2, d0, d1, d2⟩ := hC w' g'; go_simp; first | done | with_reducible rfl); (simp only [Act.put, List.setIfInBounds_toArray, List.set_cons_zero, List.set_cons_succ]))
                      | (refine TakeAll.skip (by rfl) ?_; (simp only [Act.put, List.setIfInBounds_toArray, List.set_cons_zero, List.set_cons_succ])))
                    refine TakeAll.nil ?_
                    intro w6 g6
                    have gE := ((G5.out.trans hgi).drew).trans g6
                    clear hC
                    go_wp2_with fail
                    go_ret
                    exact ⟨ret_bool HB.out.symm, gE⟩
                · have r1 : (y.n == x.n) = false := by rw [beq_eq_false_iff_ne]; exact e1
                  have r1' : (y.n != x.n) = true := by rw [bne_iff_ne]; exact e1
                  have HFT' := Lib.hid (fits_to HFT.out HY.out (by unfold fitB; rw [r1']; rfl))
                  have HN : Hid (t = noneTo l x.n (q + 1)) := by unfold Hid; rw [noneTo_succ HY.out, r1', ← HTT.out]; simp
                  clear e1
                  go_wp2_with fail
                  refine wp_region_seq (by kernel_rfl) Grew.refl (fun _ _ _ => Grew.trans) (fun _ _ _ _ _ h => h) (by kernel_rfl) ?_
                  repeat (first
                    | (refine TakeAll.pure (v := ?_) (by rfl) ?_ ?_; rotate_left; (intro w' g'; obtain ⟨c0, c1, c2, d0, d1, d2⟩ := hC w' g'; go_simp; first | done | with_reducible rfl); (simp only [Act.put, List.setIfInBounds_toArray, List.set_cons_zero, List.set_cons_succ]))
                    | (refine TakeAll.skip (by rfl) ?_; (simp only [Act.put, List.setIfInBounds_toArray, List.set_cons_zero, List.set_cons_succ])))
                  refine TakeAll.nil ?_
                  intro w6 g6
                  have hC6 : ∀ w', Grew w6.drew w' → w'.cell? ⟨b, o + k * 8, none⟩ = some (.int .i64 x.n) ∧ w'.cell? ⟨b, o + k * 8 + 1, none⟩ = some (.string x.p) ∧ w'.cell? ⟨b, o + k * 8 + 2, none⟩ = some (.string x.c) ∧ w'.cell? ⟨b, o + q * 8, none⟩ = some (.int .i64 y.n) ∧ w'.cell? ⟨b, o + q * 8 + 1, none⟩ = some (.string y.p) ∧ w'.cell? ⟨b, o + q * 8 + 2, none⟩ = some (.string y.c) := fun w' g' => hC w' ((g6.drew).trans g')
                  have G6 := Lib.hid ((hgi.drew).trans (g6.drew))
                  clear hC g6
                  cases t with
                  | true =>
                    go_wp2_with fail
                    refine wp_region_seq (by kernel_rfl) Grew.refl (fun _ _ _ => Grew.trans) (fun _ _ _ _ _ h => h) (by kernel_rfl) ?_
                    repeat (first
                      | (refine TakeAll.pure (v := ?_) (by rfl) ?_ ?_; rotate_left; (intro w' g'; obtain ⟨c0, c1, c2, d0, d1, d2⟩ := hC6 w' g'; go_simp; first | done | with_reducible rfl); (simp only [Act.put, List.setIfInBounds_toArray, List.set_cons_zero, List.set_cons_succ]))
                      | (refine TakeAll.skip (by rfl) ?_; (simp only [Act.put, List.setIfInBounds_toArray, List.set_cons_zero, List.set_cons_succ])))
                    refine TakeAll.nil ?_
                    intro w7 g7
                    have gE := G6.out.trans g7
                    clear hC6
                    go_wp2_with fail
                    go_roundw
                    case rel => exact ⟨q + 1, true, by omega, by go_num, rfl, HN, HFT', gE⟩
                    case measure => simp [intOf]; omega
                  | false =>
                    go_wp2_with fail
                    refine wp_region_seq (by kernel_rfl) Grew.refl (fun _ _ _ => Grew.trans) (fun _ _ _ _ _ h => h) (by kernel_rfl) ?_
                    repeat (first
                      | (refine TakeAll.pure (v := ?_) (by rfl) ?_ ?_; rotate_left; (intro w' g'; obtain ⟨c0, c1, c2, d0, d1, d2⟩ := hC6 w' g'; go_simp; first | done | with_reducible rfl); (simp only [Act.put, List.setIfInBounds_toArray, List.set_cons_zero, List.set_cons_succ]))
                      | (refine TakeAll.skip (by rfl) ?_; (simp only [Act.put, List.setIfInBounds_toArray, List.set_cons_zero, List.set_cons_succ])))
                    refine TakeAll.nil ?_
                    intro w7 g7
                    have gE := G6.out.trans g7
                    clear hC6
                    go_wp2_with fail
                    go_roundw
                    case rel => exact ⟨q + 1, false, by omega, by go_num, rfl, HN, HFT', gE⟩
                    case measure => simp [intOf]; omega
              · obtain rfl : k = q := by omega
                have j2 : decide (k < k) = false := decide_eq_false (by omega)
                have j3 : decide ((k : Int) < (k : Int)) = false := decide_eq_false (by omega)
                cases t with
                | false =>
                  have HOK' : Hid (okB l (k + 1) = true) := by
                    unfold Hid
                    rw [okB_succ HX.out, HOK.out, good_of HFM.out HPV.out HFT.out (by rw [cnt_old HX.out HTT.out.symm]; have := cnt_ok x.p HOK.out; omega)]; rfl
                  have GE0 := Lib.hid ((G5.out.trans hgi).drew)
                  go_wp2_with fail
                  refine wp_region_seq (by kernel_rfl) Grew.refl (fun _ _ _ => Grew.trans) (fun _ _ _ _ _ h => h) (by kernel_rfl) ?_
                  repeat (first
                    | (refine TakeAll.pure (v := ?_) (by rfl) ?_ ?_; rotate_left; (intro w' g'; go_simp; first | done | with_reducible rfl); (simp only [Act.put, List.setIfInBounds_toArray, List.set_cons_zero, List.set_cons_succ]))
                    | (refine TakeAll.skip (by rfl) ?_; (simp only [Act.put, List.setIfInBounds_toArray, List.set_cons_zero, List.set_cons_succ])))
                  refine TakeAll.nil ?_
                  intro w7 g7
                  have gE := GE0.out.trans g7
                  go_wp2_with fail
                  go_roundw
                  case rel => exact ⟨k + 1, by omega, by go_num, HOK', gE⟩
                  case measure => simp [intOf]; omega
                | true =>
                  obtain ⟨z, hz⟩ : ∃ z : Int, (cnt l x.p (k + 1) : Int) = z := ⟨_, rfl⟩
                  have HZ := Lib.hid hz
                  have HZ' : Hid ((cnt (l.take (k + 1)) x.p (k + 1) : Int) = z) := by unfold Hid; rw [cnt_take _ _ _ _ (Nat.le_refl _)]; exact hz
                  have GE0 := Lib.hid ((G5.out.trans hgi).drew)
                  have r1 : ∀ y, (Instr.slice 22 (.slice (some ⟨b, o, none⟩) n c) none (some (.int .i64 ((k : Int) + 1))) none).run Try.prog y = .ok (.slice (some ⟨b, o, none⟩) (k + 1) c) y := fun y => by
                    have := run_slice_head y 22 8 elem22 (size22 y) (some ⟨b, o, none⟩) n c (k + 1) .i64 (by omega)
                    simpa using this
                  have m1 : IntKind.i64.wrap ((k : Int) + 1) = (k : Int) + 1 := IntWalk.i64_in _ (by omega)
                  have hC : ∀ w', Grew wi.drew w' → w'.cell? ⟨b, o + k * 8 + 1, none⟩ = some (.string x.p) := fun w' g' => range_grew HR5.out ((hgi.drew).trans g') 1 _ rfl
                  have HOS : Hid (∀ w', Grew wi.drew w' → Ords w' (some ⟨b, o, none⟩) (k + 1) c (l.take (k + 1))) := fun w' g' => ⟨(HH.out.1.grew (GE0.out.trans g')).head oe_ok (by omega) (by omega) (Nat.le_refl _), fun y hy => HH.out.2 y (List.mem_of_mem_take hy)⟩
                  clear hz
                  by_cases h16 : 16 < z
                  · have q16 : decide (16 < z) = true := decide_eq_true h16
                    have HB := HF.out (okB_bad HX.out (by unfold goodB; rw [decide_eq_false (show ¬ cnt l x.p (k + 1) ≤ 16 by have := HZ.out; omega)]; simp) hlt)
                    go_wp2_with fail
                    refine wp_region_seq (by kernel_rfl) Grew.refl (fun _ _ _ => Grew.trans) (fun _ _ _ _ _ h => h) (by kernel_rfl) ?_
                    repeat (first
                      | (refine TakeAll.pure (v := ?_) (by rfl) ?_ ?_; rotate_left; (intro w' g'; have c1 := hC w' g'; go_simp; first | done | with_reducible rfl); (simp only [Act.put, List.setIfInBounds_toArray, List.set_cons_zero, List.set_cons_succ]))
                      | (refine TakeAll.skip (by rfl) ?_; (simp only [Act.put, List.setIfInBounds_toArray, List.set_cons_zero, List.set_cons_succ])))
                    refine TakeAll.call (by rfl) 23 _ (fun _ => by go_simp; first | done | rfl) (fun w' g' => numbers_val (HOS.out w' g') (by omega) HZ'.out) ?_
                    simp only [Act.put, List.setIfInBounds_toArray, List.set_cons_zero, List.set_cons_succ]
                    repeat (first
                      | (refine TakeAll.pure (v := ?_) (by rfl) ?_ ?_; rotate_left; (intro w' g'; have c1 := hC w' g'; go_simp; first | done | with_reducible rfl); (simp only [Act.put, List.setIfInBounds_toArray, List.set_cons_zero, List.set_cons_succ]))
                      | (refine TakeAll.skip (by rfl) ?_; (simp only [Act.put, List.setIfInBounds_toArray, List.set_cons_zero, List.set_cons_succ])))
                    refine TakeAll.nil ?_
                    intro w7 g7
                    have gE := GE0.out.trans g7
                    clear hC r1 m1
                    go_wp2_with fail
                    go_ret
                    exact ⟨ret_bool HB.out.symm, gE⟩
                  · have q16 : decide (16 < z) = false := decide_eq_false h16
                    have HOK' : Hid (okB l (k + 1) = true) := by unfold Hid; rw [okB_succ HX.out, HOK.out, good_of HFM.out HPV.out HFT.out (by have := HZ.out; omega)]; rfl
                    go_wp2_with fail
                    refine wp_region_seq (by kernel_rfl) Grew.refl (fun _ _ _ => Grew.trans) (fun _ _ _ _ _ h => h) (by kernel_rfl) ?_
                    repeat (first
                      | (refine TakeAll.pure (v := ?_) (by rfl) ?_ ?_; rotate_left; (intro w' g'; have c1 := hC w' g'; go_simp; first | done | with_reducible rfl); (simp only [Act.put, List.setIfInBounds_toArray, List.set_cons_zero, List.set_cons_succ]))
                      | (refine TakeAll.skip (by rfl) ?_; (simp only [Act.put, List.setIfInBounds_toArray, List.set_cons_zero, List.set_cons_succ])))
                    refine TakeAll.call (by rfl) 23 _ (fun _ => by go_simp; first | done | rfl) (fun w' g' => numbers_val (HOS.out w' g') (by omega) HZ'.out) ?_
                    simp only [Act.put, List.setIfInBounds_toArray, List.set_cons_zero, List.set_cons_succ]
                    repeat (first
                      | (refine TakeAll.pure (v := ?_) (by rfl) ?_ ?_; rotate_left; (intro w' g'; have c1 := hC w' g'; go_simp; first | done | with_reducible rfl); (simp only [Act.put, List.setIfInBounds_toArray, List.set_cons_zero, List.set_cons_succ]))
                      | (refine TakeAll.skip (by rfl) ?_; (simp only [Act.put, List.setIfInBounds_toArray, List.set_cons_zero, List.set_cons_succ])))
                    refine TakeAll.nil ?_
                    intro w7 g7
                    have gE := GE0.out.trans g7
                    clear hC r1 m1
                    go_wp2_with fail
                    go_roundw
                    case rel => exact ⟨k + 1, by omega, by go_num, HOK', gE⟩
                    case measure => simp [intOf]; omega
          · have t1 : decide (0 < (k : Int)) = true := decide_eq_true (by omega)
            have t2 : decide (0 < k) = true := decide_eq_true (by omega)
            have m1 : IntKind.i64.wrap ((k : Int) - 1) = (k : Int) - 1 := IntWalk.i64_in _ (by omega)
            have m2 : ((k : Int) - 1).toNat = k - 1 := by omega
            have m3 : (0 : Int) ≤ (k : Int) - 1 := by omega
            have m3' : (1 : Int) ≤ (k : Int) := by omega
            have m4 : (k : Int) - 1 < (n : Int) := by omega
            by_cases hlo : x.k < y
            · have q3 : decide (x.k < y) = true := decide_eq_true hlo
              have HB := HF.out (okB_bad HX.out (by unfold goodB; rw [HPV.out, decide_eq_false (by omega)]; simp) hlt)
              go_wp2_with fail
              refine wp_region_seq (by kernel_rfl) Grew.refl (fun _ _ _ => Grew.trans) (fun _ _ _ _ _ h => h) (by kernel_rfl) ?_
              repeat (first
                | (refine TakeAll.pure (v := ?_) (by rfl) ?_ ?_; rotate_left; (intro w' g'; obtain ⟨c0, c1, c2, c3, c4, c5, c6, c7⟩ := hC w' g'; have d4' := g'.cell d4; go_simp; first | done | with_reducible rfl); (simp only [Act.put, List.setIfInBounds_toArray, List.set_cons_zero, List.set_cons_succ]))
                | (refine TakeAll.skip (by rfl) ?_; (simp only [Act.put, List.setIfInBounds_toArray, List.set_cons_zero, List.set_cons_succ])))
              refine TakeAll.call (by rfl) 22 _ (fun _ => by go_simp; first | done | rfl) (fun w' g' => rformed_val HFM.out HS.out.1 HS.out.2.1 w') ?_
              simp only [Act.put, List.setIfInBounds_toArray, List.set_cons_zero, List.set_cons_succ]
              repeat (first
                | (refine TakeAll.pure (v := ?_) (by rfl) ?_ ?_; rotate_left; (intro w' g'; obtain ⟨c0, c1, c2, c3, c4, c5, c6, c7⟩ := hC w' g'; have d4' := g'.cell d4; go_simp; first | done | with_reducible rfl); (simp only [Act.put, List.setIfInBounds_toArray, List.set_cons_zero, List.set_cons_succ]))
                | (refine TakeAll.skip (by rfl) ?_; (simp only [Act.put, List.setIfInBounds_toArray, List.set_cons_zero, List.set_cons_succ])))
              refine TakeAll.nil ?_
              intro w5 g5
              have gE := (hg.drew).trans g5
              clear hC m1 m2
              go_wp2_with fail
              go_ret
              exact ⟨ret_bool HB.out.symm, gE⟩
            · have q3 : decide (x.k < y) = false := decide_eq_false hlo
              have HPV' : Hid (prevB l k x = true) := by unfold Hid; rw [HPV.out]; exact decide_eq_true (by omega)
              go_wp2_with fail
              refine wp_region_seq (by kernel_rfl) Grew.refl (fun _ _ _ => Grew.trans) (fun _ _ _ _ _ h => h) (by kernel_rfl) ?_
              repeat (first
                | (refine TakeAll.pure (v := ?_) (by rfl) ?_ ?_; rotate_left; (intro w' g'; obtain ⟨c0, c1, c2, c3, c4, c5, c6, c7⟩ := hC w' g'; have d4' := g'.cell d4; go_simp; first | done | with_reducible rfl); (simp only [Act.put, List.setIfInBounds_toArray, List.set_cons_zero, List.set_cons_succ]))
                | (refine TakeAll.skip (by rfl) ?_; (simp only [Act.put, List.setIfInBounds_toArray, List.set_cons_zero, List.set_cons_succ])))
              refine TakeAll.call (by rfl) 22 _ (fun _ => by go_simp; first | done | rfl) (fun w' g' => rformed_val HFM.out HS.out.1 HS.out.2.1 w') ?_
              simp only [Act.put, List.setIfInBounds_toArray, List.set_cons_zero, List.set_cons_succ]
              repeat (first
                | (refine TakeAll.pure (v := ?_) (by rfl) ?_ ?_; rotate_left; (intro w' g'; obtain ⟨c0, c1, c2, c3, c4, c5, c6, c7⟩ := hC w' g'; have d4' := g'.cell d4; go_simp; first | done | with_reducible rfl); (simp only [Act.put, List.setIfInBounds_toArray, List.set_cons_zero, List.set_cons_succ]))
                | (refine TakeAll.skip (by rfl) ?_; (simp only [Act.put, List.setIfInBounds_toArray, List.set_cons_zero, List.set_cons_succ])))
              refine TakeAll.nil ?_
              intro w5 g5
              clear hC t1 t2 m1 m2 m3 m3' m4 d4 HPV q3 hlo
              have HPV := HPV'
              clear HPV'
              have G5 := Lib.hid ((hg.drew).trans g5)
              have HR5 := Lib.hid (range_grew HR.out g5)
              clear HR g5 hg
              obtain ⟨wo, hwo⟩ : ∃ wo : World, wo = w5 := ⟨_, rfl⟩
              subst hwo
              go_wp2_with fail
              go_loopw [4, 5] (fun f j y => ∃ (q : Nat) (t : Bool), q ≤ k ∧ j = .int .i64 q ∧ f = .bool t ∧ Hid (t = noneTo l x.n q) ∧ Hid (fitsB l q x = true) ∧ Grew wo y) (fun _ j _ => k - (intOf j).toNat)
              case atStart => exact ⟨0, true, Nat.zero_le _, rfl, rfl, rfl, rfl, Grew.refl _⟩
              case round =>
                obtain ⟨wi, rfl⟩ : ∃ wi : World, wi = wr := ⟨_, rfl⟩
                obtain ⟨q, t, hq, rfl, rfl, HTT, HFT, hgi⟩ := hrel
                by_cases hqk : q < k
                · obtain ⟨b', o', y, ey, hy, hry⟩ := (HH.out.1.grew ((G5.out.trans hgi).drew)).at_ oe_ok (show q < n by omega)
                  injection ey with ey
                  injection ey with ey ey2
                  subst ey ey2
                  have HY := Lib.hid hy
                  have HRY := Lib.hid hry
                  have j0 : (0 : Int) ≤ (q : Int) := by omega
                  have j1 : (q : Int) < (n : Int) := by omega
                  have j2 : decide (q < k) = true := decide_eq_true hqk
                  have j3 : decide ((q : Int) < (k : Int)) = true := decide_eq_true (by omega)
                  have hC : ∀ w', Grew wi.drew w' → w'.cell? ⟨b, o + k * 8, none⟩ = some (.int .i64 x.n) ∧ w'.cell? ⟨b, o + k * 8 + 1, none⟩ = some (.string x.p) ∧ w'.cell? ⟨b, o + k * 8 + 2, none⟩ = some (.string x.c) ∧ w'.cell? ⟨b, o + q * 8, none⟩ = some (.int .i64 y.n) ∧ w'.cell? ⟨b, o + q * 8 + 1, none⟩ = some (.string y.p) ∧ w'.cell? ⟨b, o + q * 8 + 2, none⟩ = some (.string y.c) := fun w' g' => ⟨range_grew HR5.out ((hgi.drew).trans g') 0 _ rfl, range_grew HR5.out ((hgi.drew).trans g') 1 _ rfl, range_grew HR5.out ((hgi.drew).trans g') 2 _ rfl, range_grew HRY.out g' 0 _ rfl, range_grew HRY.out g' 1 _ rfl, range_grew HRY.out g' 2 _ rfl⟩
                  clear hy hry
                  by_cases e1 : y.n = x.n
                  · have r1 : (y.n == x.n) = true := by rw [beq_iff_eq]; exact e1
                    have r1' : (y.n != x.n) = false := by rw [bne_eq_false_iff_eq]; exact e1
                    by_cases e2 : y.p = x.p
                    · have r2 : (y.p.toList == x.p.toList) = true := by rw [str_eq]; exact decide_eq_true e2
                      by_cases e3 : y.c = x.c
                      · have r3 : (y.c.toList == x.c.toList) = true := by rw [str_eq]; exact decide_eq_true e3
                        have HFT' := Lib.hid (fits_to HFT.out HY.out (by unfold fitB; rw [decide_eq_true e2, decide_eq_true e3]; simp))
                        have HN : Hid (false = noneTo l x.n (q + 1)) := by unfold Hid; rw [noneTo_succ HY.out, r1']; simp
                        clear e1 e2 e3
                        go_wp2_with fail
                        refine wp_region_seq (by kernel_rfl) Grew.refl (fun _ _ _ => Grew.trans) (fun _ _ _ _ _ h => h) (by kernel_rfl) ?_
                        repeat (first
                          | (refine TakeAll.pure (v := ?_) (by rfl) ?_ ?_; rotate_left; (intro w' g'; obtain ⟨c0, c1, c2, d0, d1, d2⟩ := hC w' g'; go_simp; first | done | with_reducible rfl); (simp only [Act.put, List.setIfInBounds_toArray, List.set_cons_zero, List.set_cons_succ]))
                          | (refine TakeAll.skip (by rfl) ?_; (simp only [Act.put, List.setIfInBounds_toArray, List.set_cons_zero, List.set_cons_succ])))
                        refine TakeAll.nil ?_
                        intro w6 g6
                        have hC6 : ∀ w', Grew w6.drew w' → w'.cell? ⟨b, o + k * 8, none⟩ = some (.int .i64 x.n) ∧ w'.cell? ⟨b, o + k * 8 + 1, none⟩ = some (.string x.p) ∧ w'.cell? ⟨b, o + k * 8 + 2, none⟩ = some (.string x.c) ∧ w'.cell? ⟨b, o + q * 8, none⟩ = some (.int .i64 y.n) ∧ w'.cell? ⟨b, o + q * 8 + 1, none⟩ = some (.string y.p) ∧ w'.cell? ⟨b, o + q * 8 + 2, none⟩ = some (.string y.c) := fun w' g' => hC w' ((g6.drew).trans g')
                        have G6 := Lib.hid ((hgi.drew).trans (g6.drew))
                        clear hC g6
                        cases t with
                        | true =>
                          go_wp2_with fail
                          refine wp_region_seq (by kernel_rfl) Grew.refl (fun _ _ _ => Grew.trans) (fun _ _ _ _ _ h => h) (by kernel_rfl) ?_
                          repeat (first
                            | (refine TakeAll.pure (v := ?_) (by rfl) ?_ ?_; rotate_left; (intro w' g'; obtain ⟨c0, c1, c2, d0, d1, d2⟩ := hC6 w' g'; go_simp; first | done | with_reducible rfl); (simp only [Act.put, List.setIfInBounds_toArray, List.set_cons_zero, List.set_cons_succ]))
                            | (refine TakeAll.skip (by rfl) ?_; (simp only [Act.put, List.setIfInBounds_toArray, List.set_cons_zero, List.set_cons_succ])))
                          refine TakeAll.nil ?_
                          intro w7 g7
                          have gE := G6.out.trans g7
                          clear hC6
                          go_wp2_with fail
                          go_roundw
                          case rel => exact ⟨q + 1, false, by omega, by go_num, rfl, HN, HFT', gE⟩
                          case measure => simp [intOf]; omega
                        | false =>
                          go_wp2_with fail
                          refine wp_region_seq (by kernel_rfl) Grew.refl (fun _ _ _ => Grew.trans) (fun _ _ _ _ _ h => h) (by kernel_rfl) ?_
                          repeat (first
                            | (refine TakeAll.pure (v := ?_) (by rfl) ?_ ?_; rotate_left; (intro w' g'; obtain ⟨c0, c1, c2, d0, d1, d2⟩ := hC6 w' g'; go_simp; first | done | with_reducible rfl); (simp only [Act.put, List.setIfInBounds_toArray, List.set_cons_zero, List.set_cons_succ]))
                            | (refine TakeAll.skip (by rfl) ?_; (simp only [Act.put, List.setIfInBounds_toArray, List.set_cons_zero, List.set_cons_succ])))
                          refine TakeAll.nil ?_
                          intro w7 g7
                          have gE := G6.out.trans g7
                          clear hC6
                          go_wp2_with fail
                          go_roundw
                          case rel => exact ⟨q + 1, false, by omega, by go_num, rfl, HN, HFT', gE⟩
                          case measure => simp [intOf]; omega
                      · have r3 : (y.c.toList == x.c.toList) = false := by rw [str_eq]; exact decide_eq_false e3
                        have HB := HF.out (okB_bad HX.out (by unfold goodB; rw [fits_bad_at HY.out hqk (by unfold fitB; rw [decide_eq_false e3, e1]; simp)]; simp) hlt)
                        clear e1 e2 e3
                        go_wp2_with fail
                        refine wp_region_seq (by kernel_rfl) Grew.refl (fun _ _ _ => Grew.trans) (fun _ _ _ _ _ h => h) (by kernel_rfl) ?_
                        repeat (first
                          | (refine TakeAll.pure (v := ?_) (by rfl) ?_ ?_; rotate_left; (intro w' g'; obtain ⟨c0, c1, c2, d0, d1, d2⟩ := hC w' g'; go_simp; first | done | with_reducible rfl); (simp only [Act.put, List.setIfInBounds_toArray, List.set_cons_zero, List.set_cons_succ]))
                          | (refine TakeAll.skip (by rfl) ?_; (simp only [Act.put, List.setIfInBounds_toArray, List.set_cons_zero, List.set_cons_succ])))
                        refine TakeAll.nil ?_
                        intro w6 g6
                        have gE := ((G5.out.trans hgi).drew).trans g6
                        clear hC
                        go_wp2_with fail
                        go_ret
                        exact ⟨ret_bool HB.out.symm, gE⟩
                    · have r2 : (y.p.toList == x.p.toList) = false := by rw [str_eq]; exact decide_eq_false e2
                      have HB := HF.out (okB_bad HX.out (by unfold goodB; rw [fits_bad_at HY.out hqk (by unfold fitB; rw [decide_eq_false e2, e1]; simp)]; simp) hlt)
                      clear e1 e2
                      go_wp2_with fail
                      refine wp_region_seq (by kernel_rfl) Grew.refl (fun _ _ _ => Grew.trans) (fun _ _ _ _ _ h => h) (by kernel_rfl) ?_
                      repeat (first
                        | (refine TakeAll.pure (v := ?_) (by rfl) ?_ ?_; rotate_left; (intro w' g'; obtain ⟨c0, c1, c2, d0, d1, d2⟩ := hC w' g'; go_simp; first | done | with_reducible rfl); (simp only [Act.put, List.setIfInBounds_toArray, List.set_cons_zero, List.set_cons_succ]))
                        | (refine TakeAll.skip (by rfl) ?_; (simp only [Act.put, List.setIfInBounds_toArray, List.set_cons_zero, List.set_cons_succ])))
                      refine TakeAll.nil ?_
                      intro w6 g6
                      have gE := ((G5.out.trans hgi).drew).trans g6
                      clear hC
                      go_wp2_with fail
                      go_ret
                      exact ⟨ret_bool HB.out.symm, gE⟩
                  · have r1 : (y.n == x.n) = false := by rw [beq_eq_false_iff_ne]; exact e1
                    have r1' : (y.n != x.n) = true := by rw [bne_iff_ne]; exact e1
                    have HFT' := Lib.hid (fits_to HFT.out HY.out (by unfold fitB; rw [r1']; rfl))
                    have HN : Hid (t = noneTo l x.n (q + 1)) := by unfold Hid; rw [noneTo_succ HY.out, r1', ← HTT.out]; simp
                    clear e1
                    go_wp2_with fail
                    refine wp_region_seq (by kernel_rfl) Grew.refl (fun _ _ _ => Grew.trans) (fun _ _ _ _ _ h => h) (by kernel_rfl) ?_
                    repeat (first
                      | (refine TakeAll.pure (v := ?_) (by rfl) ?_ ?_; rotate_left; (intro w' g'; obtain ⟨c0, c1, c2, d0, d1, d2⟩ := hC w' g'; go_simp; first | done | with_reducible rfl); (simp only [Act.put, List.setIfInBounds_toArray, List.set_cons_zero, List.set_cons_succ]))
                      | (refine TakeAll.skip (by rfl) ?_; (simp only [Act.put, List.setIfInBounds_toArray, List.set_cons_zero, List.set_cons_succ])))
                    refine TakeAll.nil ?_
                    intro w6 g6
                    have hC6 : ∀ w', Grew w6.drew w' → w'.cell? ⟨b, o + k * 8, none⟩ = some (.int .i64 x.n) ∧ w'.cell? ⟨b, o + k * 8 + 1, none⟩ = some (.string x.p) ∧ w'.cell? ⟨b, o + k * 8 + 2, none⟩ = some (.string x.c) ∧ w'.cell? ⟨b, o + q * 8, none⟩ = some (.int .i64 y.n) ∧ w'.cell? ⟨b, o + q * 8 + 1, none⟩ = some (.string y.p) ∧ w'.cell? ⟨b, o + q * 8 + 2, none⟩ = some (.string y.c) := fun w' g' => hC w' ((g6.drew).trans g')
                    have G6 := Lib.hid ((hgi.drew).trans (g6.drew))
                    clear hC g6
                    cases t with
                    | true =>
                      go_wp2_with fail
                      refine wp_region_seq (by kernel_rfl) Grew.refl (fun _ _ _ => Grew.trans) (fun _ _ _ _ _ h => h) (by kernel_rfl) ?_
                      repeat (first
                        | (refine TakeAll.pure (v := ?_) (by rfl) ?_ ?_; rotate_left; (intro w' g'; obtain ⟨c0, c1, c2, d0, d1, d2⟩ := hC6 w' g'; go_simp; first | done | with_reducible rfl); (simp only [Act.put, List.setIfInBounds_toArray, List.set_cons_zero, List.set_cons_succ]))
                        | (refine TakeAll.skip (by rfl) ?_; (simp only [Act.put, List.setIfInBounds_toArray, List.set_cons_zero, List.set_cons_succ])))
                      refine TakeAll.nil ?_
                      intro w7 g7
                      have gE := G6.out.trans g7
                      clear hC6
                      go_wp2_with fail
                      go_roundw
                      case rel => exact ⟨q + 1, true, by omega, by go_num, rfl, HN, HFT', gE⟩
                      case measure => simp [intOf]; omega
                    | false =>
                      go_wp2_with fail
                      refine wp_region_seq (by kernel_rfl) Grew.refl (fun _ _ _ => Grew.trans) (fun _ _ _ _ _ h => h) (by kernel_rfl) ?_
                      repeat (first
                        | (refine TakeAll.pure (v := ?_) (by rfl) ?_ ?_; rotate_left; (intro w' g'; obtain ⟨c0, c1, c2, d0, d1, d2⟩ := hC6 w' g'; go_simp; first | done | with_reducible rfl); (simp only [Act.put, List.setIfInBounds_toArray, List.set_cons_zero, List.set_cons_succ]))
                        | (refine TakeAll.skip (by rfl) ?_; (simp only [Act.put, List.setIfInBounds_toArray, List.set_cons_zero, List.set_cons_succ])))
                      refine TakeAll.nil ?_
                      intro w7 g7
                      have gE := G6.out.trans g7
                      clear hC6
                      go_wp2_with fail
                      go_roundw
                      case rel => exact ⟨q + 1, false, by omega, by go_num, rfl, HN, HFT', gE⟩
                      case measure => simp [intOf]; omega
                · obtain rfl : k = q := by omega
                  have j2 : decide (k < k) = false := decide_eq_false (by omega)
                  have j3 : decide ((k : Int) < (k : Int)) = false := decide_eq_false (by omega)
                  cases t with
                  | false =>
                    have HOK' : Hid (okB l (k + 1) = true) := by
                      unfold Hid
                      rw [okB_succ HX.out, HOK.out, good_of HFM.out HPV.out HFT.out (by rw [cnt_old HX.out HTT.out.symm]; have := cnt_ok x.p HOK.out; omega)]; rfl
                    have GE0 := Lib.hid ((G5.out.trans hgi).drew)
                    go_wp2_with fail
                    refine wp_region_seq (by kernel_rfl) Grew.refl (fun _ _ _ => Grew.trans) (fun _ _ _ _ _ h => h) (by kernel_rfl) ?_
                    repeat (first
                      | (refine TakeAll.pure (v := ?_) (by rfl) ?_ ?_; rotate_left; (intro w' g'; go_simp; first | done | with_reducible rfl); (simp only [Act.put, List.setIfInBounds_toArray, List.set_cons_zero, List.set_cons_succ]))
                      | (refine TakeAll.skip (by rfl) ?_; (simp only [Act.put, List.setIfInBounds_toArray, List.set_cons_zero, List.set_cons_succ])))
                    refine TakeAll.nil ?_
                    intro w7 g7
                    have gE := GE0.out.trans g7
                    go_wp2_with fail
                    go_roundw
                    case rel => exact ⟨k + 1, by omega, by go_num, HOK', gE⟩
                    case measure => simp [intOf]; omega
                  | true =>
                    obtain ⟨z, hz⟩ : ∃ z : Int, (cnt l x.p (k + 1) : Int) = z := ⟨_, rfl⟩
                    have HZ := Lib.hid hz
                    have HZ' : Hid ((cnt (l.take (k + 1)) x.p (k + 1) : Int) = z) := by unfold Hid; rw [cnt_take _ _ _ _ (Nat.le_refl _)]; exact hz
                    have GE0 := Lib.hid ((G5.out.trans hgi).drew)
                    have r1 : ∀ y, (Instr.slice 22 (.slice (some ⟨b, o, none⟩) n c) none (some (.int .i64 ((k : Int) + 1))) none).run Try.prog y = .ok (.slice (some ⟨b, o, none⟩) (k + 1) c) y := fun y => by
                      have := run_slice_head y 22 8 elem22 (size22 y) (some ⟨b, o, none⟩) n c (k + 1) .i64 (by omega)
                      simpa using this
                    have m1 : IntKind.i64.wrap ((k : Int) + 1) = (k : Int) + 1 := IntWalk.i64_in _ (by omega)
                    have hC : ∀ w', Grew wi.drew w' → w'.cell? ⟨b, o + k * 8 + 1, none⟩ = some (.string x.p) := fun w' g' => range_grew HR5.out ((hgi.drew).trans g') 1 _ rfl
                    have HOS : Hid (∀ w', Grew wi.drew w' → Ords w' (some ⟨b, o, none⟩) (k + 1) c (l.take (k + 1))) := fun w' g' => ⟨(HH.out.1.grew (GE0.out.trans g')).head oe_ok (by omega) (by omega) (Nat.le_refl _), fun y hy => HH.out.2 y (List.mem_of_mem_take hy)⟩
                    clear hz
                    by_cases h16 : 16 < z
                    · have q16 : decide (16 < z) = true := decide_eq_true h16
                      have HB := HF.out (okB_bad HX.out (by unfold goodB; rw [decide_eq_false (show ¬ cnt l x.p (k + 1) ≤ 16 by have := HZ.out; omega)]; simp) hlt)
                      go_wp2_with fail
                      refine wp_region_seq (by kernel_rfl) Grew.refl (fun _ _ _ => Grew.trans) (fun _ _ _ _ _ h => h) (by kernel_rfl) ?_
                      repeat (first
                        | (refine TakeAll.pure (v := ?_) (by rfl) ?_ ?_; rotate_left; (intro w' g'; have c1 := hC w' g'; go_simp; first | done | with_reducible rfl); (simp only [Act.put, List.setIfInBounds_toArray, List.set_cons_zero, List.set_cons_succ]))
                        | (refine TakeAll.skip (by rfl) ?_; (simp only [Act.put, List.setIfInBounds_toArray, List.set_cons_zero, List.set_cons_succ])))
                      refine TakeAll.call (by rfl) 23 _ (fun _ => by go_simp; first | done | rfl) (fun w' g' => numbers_val (HOS.out w' g') (by omega) HZ'.out) ?_
                      simp only [Act.put, List.setIfInBounds_toArray, List.set_cons_zero, List.set_cons_succ]
                      repeat (first
                        | (refine TakeAll.pure (v := ?_) (by rfl) ?_ ?_; rotate_left; (intro w' g'; have c1 := hC w' g'; go_simp; first | done | with_reducible rfl); (simp only [Act.put, List.setIfInBounds_toArray, List.set_cons_zero, List.set_cons_succ]))
                        | (refine TakeAll.skip (by rfl) ?_; (simp only [Act.put, List.setIfInBounds_toArray, List.set_cons_zero, List.set_cons_succ])))
                      refine TakeAll.nil ?_
                      intro w7 g7
                      have gE := GE0.out.trans g7
                      clear hC r1 m1
                      go_wp2_with fail
                      go_ret
                      exact ⟨ret_bool HB.out.symm, gE⟩
                    · have q16 : decide (16 < z) = false := decide_eq_false h16
                      have HOK' : Hid (okB l (k + 1) = true) := by unfold Hid; rw [okB_succ HX.out, HOK.out, good_of HFM.out HPV.out HFT.out (by have := HZ.out; omega)]; rfl
                      go_wp2_with fail
                      refine wp_region_seq (by kernel_rfl) Grew.refl (fun _ _ _ => Grew.trans) (fun _ _ _ _ _ h => h) (by kernel_rfl) ?_
                      repeat (first
                        | (refine TakeAll.pure (v := ?_) (by rfl) ?_ ?_; rotate_left; (intro w' g'; have c1 := hC w' g'; go_simp; first | done | with_reducible rfl); (simp only [Act.put, List.setIfInBounds_toArray, List.set_cons_zero, List.set_cons_succ]))
                        | (refine TakeAll.skip (by rfl) ?_; (simp only [Act.put, List.setIfInBounds_toArray, List.set_cons_zero, List.set_cons_succ])))
                      refine TakeAll.call (by rfl) 23 _ (fun _ => by go_simp; first | done | rfl) (fun w' g' => numbers_val (HOS.out w' g') (by omega) HZ'.out) ?_
                      simp only [Act.put, List.setIfInBounds_toArray, List.set_cons_zero, List.set_cons_succ]
                      repeat (first
                        | (refine TakeAll.pure (v := ?_) (by rfl) ?_ ?_; rotate_left; (intro w' g'; have c1 := hC w' g'; go_simp; first | done | with_reducible rfl); (simp only [Act.put, List.setIfInBounds_toArray, List.set_cons_zero, List.set_cons_succ]))
                        | (refine TakeAll.skip (by rfl) ?_; (simp only [Act.put, List.setIfInBounds_toArray, List.set_cons_zero, List.set_cons_succ])))
                      refine TakeAll.nil ?_
                      intro w7 g7
                      have gE := GE0.out.trans g7
                      clear hC r1 m1
                      go_wp2_with fail
                      go_roundw
                      case rel => exact ⟨k + 1, by omega, by go_num, HOK', gE⟩
                      case measure => simp [intOf]; omega
      · have HB := HT.out (show okB l n = true by have := HOK.out; rwa [show k = n by omega] at this)
        have gE := hg
        go_wp2_with fail
        go_ret
        exact ⟨ret_bool HB.out.symm, gE⟩
theorem rvalid_val {A : Option Addr} {n c : Nat} {l : List Ord} {w : World} {t : Bool} (h : Ords w A n c l) (ht : validB l = t) :
    Calls Try.prog 15 #[.slice A n c] w fun r w' => r = .returned (.bool t) ∧ Grew w w' := by subst ht; exact rvalid_any A n c l w h
end Go.Proofs.Ytjpnodmcglcihaa
