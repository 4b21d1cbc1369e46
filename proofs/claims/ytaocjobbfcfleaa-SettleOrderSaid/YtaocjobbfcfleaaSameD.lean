/-
  The reference's Same: desks are compared.
-/
import Derived.Test.YtaocjobbfcfleaaEntries
namespace Go.Proofs.Ytaocjobbfcfleaa
open Go.RowKit Go.Proofs WageMem WageOrd WageRec WageMap WageReg WageSet
def sameD (d1 d2 : Desk) : Bool := decide (d1 = d2)
theorem sameD_yes {d1 d2 : Desk} (h : d1.ss = d2.ss) (h' : d1.an = d2.an) : sameD d1 d2 = true := by
  cases d1; cases d2; simp only at h h'; subst h h'; exact decide_eq_true rfl
theorem sameD_ss {d1 d2 : Desk} (h : ¬ d1.ss = d2.ss) : sameD d1 d2 = false := decide_eq_false fun e => h (by rw [e])
theorem sameD_an {d1 d2 : Desk} (h : ¬ d1.an = d2.an) : sameD d1 d2 = false := decide_eq_false fun e => h (by rw [e])
set_option maxRecDepth 100000 in
set_option maxHeartbeats 16000000 in
theorem same_any (A1 B1 A2 B2 : Option Addr) (n1 c1 m1 e1 n2 c2 m2 e2 : Nat) (d1 d2 : Desk) (w : World) (h1 : DeskIs w A1 n1 c1 B1 m1 e1 d1) (h2 : DeskIs w A2 n2 c2 B2 m2 e2 d2) :
    Calls Try.prog 15 #[.agg #[.slice A1 n1 c1, .slice B1 m1 e1], .agg #[.slice A2 n2 c2, .slice B2 m2 e2]] w fun r w' => r = .returned (.bool (sameD d1 d2)) ∧ Grew w w' := by
  have HH1 := Lib.hid h1
  have HH2 := Lib.hid h2
  have LA1 := Lib.hid h1.1.1.1
  have LA2 := Lib.hid h2.1.1.1
  have LB1 := Lib.hid h1.2.1
  have LB2 := Lib.hid h2.2.1
  have u1 := h1.1.1.le
  have u2 := h2.1.1.le
  have u3 := Recs.le h1.2
  have u4 := Recs.le h2.2
  obtain ⟨ba, hba⟩ : ∃ b, b = w.heap.size := ⟨_, rfl⟩
  obtain ⟨bb, hbb⟩ : ∃ b, b = w.heap.size + 1 := ⟨_, rfl⟩
  obtain ⟨wd, hwd⟩ : ∃ x, x = (w.alloc (.cells #[.slice A1 n1 c1, .slice B1 m1 e1] 25)).alloc (.cells #[.slice A2 n2 c2, .slice B2 m2 e2] 25) := ⟨_, rfl⟩
  have G0 : Hid (Grew w wd) := by unfold Hid; rw [hwd]; exact ((Grew.refl w).alloc _).alloc _
  have HR1 : Hid (wd.rangeAt ba 0 [.slice A1 n1 c1, .slice B1 m1 e1]) := by unfold Hid; rw [hwd, hba]; exact range_grew (range_new w _ 25) ((Grew.refl _).alloc _)
  have HR2 : Hid (wd.rangeAt bb 0 [.slice A2 n2 c2, .slice B2 m2 e2]) := by
    unfold Hid; rw [hwd, hbb]
    have := range_new (w.alloc (.cells #[.slice A1 n1 c1, .slice B1 m1 e1] 25)) [.slice A2 n2 c2, .slice B2 m2 e2] 25
    rw [show (w.alloc (.cells #[.slice A1 n1 c1, .slice B1 m1 e1] 25)).heap.size = w.heap.size + 1 by simp] at this
    exact this
  have x0 := HR1.out 0 _ rfl
  have x1 := HR1.out 1 _ rfl
  have y0 := HR2.out 0 _ rfl
  have y1 := HR2.out 1 _ rfl
  simp only [Nat.zero_add] at x0 x1 y0 y1
  clear h1 h2
  by_cases hn : n1 = n2
  · by_cases hm : m1 = m2
    · subst hn hm
      have q : ((n1 : Int) != (n1 : Int)) = false := by simp
      have q2 : ((m1 : Int) != (m1 : Int)) = false := by simp
      go_enter Try.func15, Try.ntmps15
      go_upto_region 1 with (fail)
      rw [← hwd, ← hbb, ← hba]
      clear hwd hba hbb
      go_wp2_with fail
      clear x0 x1 y0 y1
      go_loopw [5] (fun i y => ∃ k : Nat, k ≤ n1 ∧ i = .int .i64 k ∧ Hid (d1.ss.take k = d2.ss.take k) ∧ Grew wd y) (fun i _ => n1 - (intOf i).toNat)
      case atStart => exact ⟨0, Nat.zero_le _, rfl, rfl, (Grew.refl _)⟩
      case round =>
        skip
        obtain ⟨k, hk, rfl, HE, hg⟩ := hrel
        have r1 := range_grew HR1.out hg 0 _ rfl
        simp only [Nat.zero_add] at r1
        by_cases hlt : k < n1
        · have HR1x := Lib.hid (range_grew HR1.out hg.drew)
          have HR2x := Lib.hid (range_grew HR2.out hg.drew)
          obtain ⟨b, o, x, hA, hx, hrx⟩ := ((HH1.out.1.1).grew ((Grew.trans G0.out hg).drew)).at_ se_ok hlt
          obtain ⟨b', o', y, hB, hy, hry⟩ := ((HH2.out.1.1).grew ((Grew.trans G0.out hg).drew)).at_ se_ok hlt
          subst hA hB
          have HX := Lib.hid hx
          have HY := Lib.hid hy
          have i0 : (0 : Int) ≤ (k : Int) := by omega
          have i1 : (k : Int) < (n1 : Int) := by omega
          have hC : ∀ w', Grew wr.drew w' → w'.cell? ⟨ba, 0, none⟩ = some (.slice (some ⟨b, o, none⟩) n1 c1) ∧ w'.cell? ⟨bb, 0, none⟩ = some (.slice (some ⟨b', o', none⟩) n1 c2) ∧ (w'.cell? ⟨b, o + k * 7, none⟩ = some (.int .i64 x.p.id) ∧ w'.cell? ⟨b, o + k * 7 + 1, none⟩ = some (.string x.p.acc) ∧ w'.cell? ⟨b, o + k * 7 + 2, none⟩ = some (.int .i64 x.p.c) ∧ w'.cell? ⟨b, o + k * 7 + 3, none⟩ = some (.int .i64 x.p.d) ∧ w'.cell? ⟨b, o + k * 7 + 4, none⟩ = some (.int .i64 x.st) ∧ w'.cell? ⟨b, o + k * 7 + 5, none⟩ = some (.int .i64 x.pd) ∧ w'.cell? ⟨b, o + k * 7 + 6, none⟩ = some (.int .i64 x.bk)) ∧ w'.cell? ⟨b', o' + k * 7, none⟩ = some (.int .i64 y.p.id) ∧ w'.cell? ⟨b', o' + k * 7 + 1, none⟩ = some (.string y.p.acc) ∧ w'.cell? ⟨b', o' + k * 7 + 2, none⟩ = some (.int .i64 y.p.c) ∧ w'.cell? ⟨b', o' + k * 7 + 3, none⟩ = some (.int .i64 y.p.d) ∧ w'.cell? ⟨b', o' + k * 7 + 4, none⟩ = some (.int .i64 y.st) ∧ w'.cell? ⟨b', o' + k * 7 + 5, none⟩ = some (.int .i64 y.pd) ∧ w'.cell? ⟨b', o' + k * 7 + 6, none⟩ = some (.int .i64 y.bk) := fun w' g' => by
            have s1 := range_grew HR1x.out g' 0 _ rfl
            have s2 := range_grew HR2x.out g' 0 _ rfl
            simp only [Nat.zero_add] at s1 s2
            exact ⟨s1, s2, s_cells (range_grew hrx g'), s_cells (range_grew hry g')⟩
          clear hx hy hrx hry HR1x HR2x
          cases hxy : eqSta x y with
          | true =>
            have HT := Lib.hid (takes_eq HX.out HY.out HE.out (of_decide_eq_true hxy))
            go_wp2_with fail
            refine wp_region_seq (by kernel_rfl) Grew.refl (fun _ _ _ => Grew.trans) (fun _ _ _ _ _ h => h) (by kernel_rfl) ?_
            repeat (first
              | (refine TakeAll.pure (v := ?_) (by rfl) ?_ ?_; rotate_left; (intro w' g'; obtain ⟨s1, s2, ⟨q0, q1, q2, q3, q4, q5, q6⟩, z0, z1, z2, z3, z4, z5, z6⟩ := hC w' g'; go_simp; first | done | with_reducible rfl); (simp only [Act.put, List.setIfInBounds_toArray, List.set_cons_zero, List.set_cons_succ]))
              | (refine TakeAll.skip (by rfl) ?_; (simp only [Act.put, List.setIfInBounds_toArray, List.set_cons_zero, List.set_cons_succ])))
            refine TakeAll.pure (v := .bool false) (by rfl) (fun w' _ => exec_neq43 (a := x) (b := y) (by rw [hxy]; rfl) rfl rfl rfl w') ?_
            simp only [Act.put, List.setIfInBounds_toArray, List.set_cons_zero, List.set_cons_succ]
            refine TakeAll.nil ?_
            intro w5 g5
            have gE := (hg.drew).trans g5
            clear hC
            clear r1
            go_wp2_with fail
            go_roundw
            case rel => exact ⟨k + 1, by omega, by go_num, HT, gE⟩
            case measure => simp [intOf]; omega
          | false =>
            have HN : Hid (¬ d1.ss = d2.ss) := by
              intro h
              have h1 := HX.out
              rw [h, HY.out] at h1
              injection h1 with h1
              exact (of_decide_eq_false hxy) h1.symm
            go_wp2_with fail
            refine wp_region_seq (by kernel_rfl) Grew.refl (fun _ _ _ => Grew.trans) (fun _ _ _ _ _ h => h) (by kernel_rfl) ?_
            repeat (first
              | (refine TakeAll.pure (v := ?_) (by rfl) ?_ ?_; rotate_left; (intro w' g'; obtain ⟨s1, s2, ⟨q0, q1, q2, q3, q4, q5, q6⟩, z0, z1, z2, z3, z4, z5, z6⟩ := hC w' g'; go_simp; first | done | with_reducible rfl); (simp only [Act.put, List.setIfInBounds_toArray, List.set_cons_zero, List.set_cons_succ]))
              | (refine TakeAll.skip (by rfl) ?_; (simp only [Act.put, List.setIfInBounds_toArray, List.set_cons_zero, List.set_cons_succ])))
            refine TakeAll.pure (v := .bool true) (by rfl) (fun w' _ => exec_neq43 (a := x) (b := y) (by rw [hxy]; rfl) rfl rfl rfl w') ?_
            simp only [Act.put, List.setIfInBounds_toArray, List.set_cons_zero, List.set_cons_succ]
            refine TakeAll.nil ?_
            intro w5 g5
            have gE := (hg.drew).trans g5
            clear hC
            clear r1
            go_wp2_with fail
            go_ret
            exact ⟨ret_bool (sameD_ss HN.out).symm, G0.out.trans gE⟩
        · have HS : Hid (d1.ss = d2.ss) := by
            have h1 := HE.out
            rw [List.take_of_length_le (by rw [LA1.out]; omega), List.take_of_length_le (by rw [LA2.out]; omega)] at h1
            exact h1
          have hgA := hg
          clear HE
          go_wp2_with fail
          clear r1 hg
          go_loopw [6] (fun i y => ∃ k : Nat, k ≤ m1 ∧ i = .int .i64 k ∧ Hid (d1.an.take k = d2.an.take k) ∧ Grew wd y) (fun i _ => m1 - (intOf i).toNat)
          case atStart => exact ⟨0, Nat.zero_le _, rfl, rfl, hgA⟩
          case round =>
            clear hgA
            obtain ⟨k, hk, rfl, HE, hg⟩ := hrel
            have r1 := range_grew HR1.out hg 1 _ rfl
            simp only [Nat.zero_add] at r1
            by_cases hlt : k < m1
            · have HR1x := Lib.hid (range_grew HR1.out hg.drew)
              have HR2x := Lib.hid (range_grew HR2.out hg.drew)
              obtain ⟨b, o, x, hA, hx, hrx⟩ := ((HH1.out.2).grew ((Grew.trans G0.out hg).drew)).at_ ae_ok hlt
              obtain ⟨b', o', y, hB, hy, hry⟩ := ((HH2.out.2).grew ((Grew.trans G0.out hg).drew)).at_ ae_ok hlt
              subst hA hB
              have HX := Lib.hid hx
              have HY := Lib.hid hy
              have i0 : (0 : Int) ≤ (k : Int) := by omega
              have i1 : (k : Int) < (m1 : Int) := by omega
              have hC : ∀ w', Grew wr.drew w' → w'.cell? ⟨ba, 1, none⟩ = some (.slice (some ⟨b, o, none⟩) m1 e1) ∧ w'.cell? ⟨bb, 1, none⟩ = some (.slice (some ⟨b', o', none⟩) m1 e2) ∧ (w'.cell? ⟨b, o + k * 5, none⟩ = some (.int .i64 x.q) ∧ w'.cell? ⟨b, o + k * 5 + 1, none⟩ = some (.int .i64 x.id) ∧ w'.cell? ⟨b, o + k * 5 + 2, none⟩ = some (.int .i64 x.k) ∧ w'.cell? ⟨b, o + k * 5 + 3, none⟩ = some (.int .i64 x.c) ∧ w'.cell? ⟨b, o + k * 5 + 4, none⟩ = some (.int .i64 x.d)) ∧ w'.cell? ⟨b', o' + k * 5, none⟩ = some (.int .i64 y.q) ∧ w'.cell? ⟨b', o' + k * 5 + 1, none⟩ = some (.int .i64 y.id) ∧ w'.cell? ⟨b', o' + k * 5 + 2, none⟩ = some (.int .i64 y.k) ∧ w'.cell? ⟨b', o' + k * 5 + 3, none⟩ = some (.int .i64 y.c) ∧ w'.cell? ⟨b', o' + k * 5 + 4, none⟩ = some (.int .i64 y.d) := fun w' g' => by
                have s1 := range_grew HR1x.out g' 1 _ rfl
                have s2 := range_grew HR2x.out g' 1 _ rfl
                simp only [Nat.zero_add] at s1 s2
                exact ⟨s1, s2, a_cells (range_grew hrx g'), a_cells (range_grew hry g')⟩
              clear hx hy hrx hry HR1x HR2x
              cases hxy : eqAns x y with
              | true =>
                have HT := Lib.hid (takes_eq HX.out HY.out HE.out (of_decide_eq_true hxy))
                go_wp2_with fail
                refine wp_region_seq (by kernel_rfl) Grew.refl (fun _ _ _ => Grew.trans) (fun _ _ _ _ _ h => h) (by kernel_rfl) ?_
                repeat (first
                  | (refine TakeAll.pure (v := ?_) (by rfl) ?_ ?_; rotate_left; (intro w' g'; obtain ⟨s1, s2, ⟨q0, q1, q2, q3, q4⟩, z0, z1, z2, z3, z4⟩ := hC w' g'; go_simp; first | done | with_reducible rfl); (simp only [Act.put, List.setIfInBounds_toArray, List.set_cons_zero, List.set_cons_succ]))
                  | (refine TakeAll.skip (by rfl) ?_; (simp only [Act.put, List.setIfInBounds_toArray, List.set_cons_zero, List.set_cons_succ])))
                refine TakeAll.pure (v := .bool false) (by rfl) (fun w' _ => exec_neq29 (a := x) (b := y) (by rw [hxy]; rfl) rfl rfl rfl w') ?_
                simp only [Act.put, List.setIfInBounds_toArray, List.set_cons_zero, List.set_cons_succ]
                refine TakeAll.nil ?_
                intro w5 g5
                have gE := (hg.drew).trans g5
                clear hC
                clear r1
                go_wp2_with fail
                go_roundw
                case rel => exact ⟨k + 1, by omega, by go_num, HT, gE⟩
                case measure => simp [intOf]; omega
              | false =>
                have HN : Hid (¬ d1.an = d2.an) := by
                  intro h
                  have h1 := HX.out
                  rw [h, HY.out] at h1
                  injection h1 with h1
                  exact (of_decide_eq_false hxy) h1.symm
                go_wp2_with fail
                refine wp_region_seq (by kernel_rfl) Grew.refl (fun _ _ _ => Grew.trans) (fun _ _ _ _ _ h => h) (by kernel_rfl) ?_
                repeat (first
                  | (refine TakeAll.pure (v := ?_) (by rfl) ?_ ?_; rotate_left; (intro w' g'; obtain ⟨s1, s2, ⟨q0, q1, q2, q3, q4⟩, z0, z1, z2, z3, z4⟩ := hC w' g'; go_simp; first | done | with_reducible rfl); (simp only [Act.put, List.setIfInBounds_toArray, List.set_cons_zero, List.set_cons_succ]))
                  | (refine TakeAll.skip (by rfl) ?_; (simp only [Act.put, List.setIfInBounds_toArray, List.set_cons_zero, List.set_cons_succ])))
                refine TakeAll.pure (v := .bool true) (by rfl) (fun w' _ => exec_neq29 (a := x) (b := y) (by rw [hxy]; rfl) rfl rfl rfl w') ?_
                simp only [Act.put, List.setIfInBounds_toArray, List.set_cons_zero, List.set_cons_succ]
                refine TakeAll.nil ?_
                intro w5 g5
                have gE := (hg.drew).trans g5
                clear hC
                clear r1
                go_wp2_with fail
                go_ret
                exact ⟨ret_bool (sameD_an HN.out).symm, G0.out.trans gE⟩
            · have HN : Hid (d1.an = d2.an) := by
                have h1 := HE.out
                rw [List.take_of_length_le (by rw [LB1.out]; omega), List.take_of_length_le (by rw [LB2.out]; omega)] at h1
                exact h1
              go_wp2_with fail
              go_ret
              exact ⟨ret_bool (sameD_yes HS.out HN.out).symm, G0.out.trans hg⟩
    · subst hn
      have q : ((n1 : Int) != (n1 : Int)) = false := by simp
      have q2 : ((m1 : Int) != (m2 : Int)) = true := by rw [bne_iff_ne]; omega
      have HN : Hid (¬ d1.an = d2.an) := by intro h; apply hm; rw [← LB1.out, ← LB2.out, h]
      clear hm
      go_enter Try.func15, Try.ntmps15
      go_upto_region 1 with (fail)
      rw [← hwd, ← hbb, ← hba]
      clear hwd hba hbb
      go_wp2_with fail
      go_ret
      exact ⟨ret_bool (sameD_an HN.out).symm, G0.out⟩
  · have q : ((n1 : Int) != (n2 : Int)) = true := by rw [bne_iff_ne]; omega
    have HN : Hid (¬ d1.ss = d2.ss) := by intro h; apply hn; rw [← LA1.out, ← LA2.out, h]
    clear hn
    go_enter Try.func15, Try.ntmps15
    go_upto_region 1 with (fail)
    rw [← hwd, ← hbb, ← hba]
    clear hwd hba hbb
    go_wp2_with fail
    go_ret
    exact ⟨ret_bool (sameD_ss HN.out).symm, G0.out⟩
theorem same_val {A1 B1 A2 B2 : Option Addr} {n1 c1 m1 e1 n2 c2 m2 e2 : Nat} {d1 d2 : Desk} {w : World} {t : Bool} (h1 : DeskIs w A1 n1 c1 B1 m1 e1 d1) (h2 : DeskIs w A2 n2 c2 B2 m2 e2 d2) (ht : sameD d1 d2 = t) :
    Calls Try.prog 15 #[.agg #[.slice A1 n1 c1, .slice B1 m1 e1], .agg #[.slice A2 n2 c2, .slice B2 m2 e2]] w fun r w' => r = .returned (.bool t) ∧ Grew w w' := by subst ht; exact same_any _ _ _ _ _ _ _ _ _ _ _ _ d1 d2 w h1 h2
end Go.Proofs.Ytaocjobbfcfleaa
