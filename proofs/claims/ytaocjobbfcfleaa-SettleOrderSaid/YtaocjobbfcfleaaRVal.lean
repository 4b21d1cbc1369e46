/-
  The reference's Valid.
-/
import Derived.Test.YtaocjobbfcfleaaRValP
import Derived.Test.YtaocjobbfcfleaaFormR
namespace WageSet
theorem findI_pos {l : List Sta} {id : Int} (h : hasId l id = true) : 0 ≤ findI l id := by
  unfold findI
  cases e : l.findIdx? (fun s => s.p.id == id) with
  | some i => exact Int.natCast_nonneg i
  | none =>
    exfalso
    rw [List.findIdx?_eq_none_iff] at e
    unfold hasId at h
    rw [List.any_eq_true] at h
    obtain ⟨x, hx, hxe⟩ := h
    rw [e x hx] at hxe
    cases hxe
end WageSet
namespace Go.Proofs.Ytaocjobbfcfleaa
open Go.RowKit Go.Proofs WageMem WageOrd WageRec WageMap WageReg WageSet
set_option maxRecDepth 100000 in
set_option maxHeartbeats 32000000 in
theorem rvalid_any (A B : Option Addr) (n c m e : Nat) (d : Desk) (w : World) (h : DeskIs w A n c B m e d) : Calls Try.prog 22 #[.agg #[.slice A n c, .slice B m e]] w fun r w' => r = .returned (.bool (validB d)) ∧ Grew w w' := by
  have HH := Lib.hid h
  have HL := Lib.hid h.1.1.1
  have HLA := Lib.hid h.2.1
  have hn63 := h.1.1.le
  have hm63 := Recs.le h.2
  obtain ⟨bd, hbd⟩ : ∃ b, b = w.heap.size := ⟨_, rfl⟩
  obtain ⟨wd, hwd⟩ : ∃ x, x = w.alloc (.cells #[.slice A n c, .slice B m e] 25) := ⟨_, rfl⟩
  have G0 : Hid (Grew w wd) := by unfold Hid; rw [hwd]; exact (Grew.refl w).alloc _
  have HR : Hid (wd.rangeAt bd 0 [.slice A n c, .slice B m e]) := by unfold Hid; rw [hwd, hbd]; exact range_new w _ 25
  have u0 := HR.out 0 _ rfl
  have u1 := HR.out 1 _ rfl
  simp only [Nat.zero_add] at u0 u1
  clear h
  by_cases hn : n ≤ 400
  · have q1 : decide (400 < n) = false := decide_eq_false (by omega)
    have q1' : decide ((400 : Int) < (n : Int)) = false := decide_eq_false (by omega)
    by_cases hm : m ≤ 2000
    · have q2 : decide (2000 < m) = false := decide_eq_false (by omega)
      have q2' : decide ((2000 : Int) < (m : Int)) = false := decide_eq_false (by omega)
      go_enter Try.func22, Try.ntmps22
      go_upto_region 1 with (fail)
      rw [← hwd, ← hbd]
      clear hwd hbd
      go_wp2_with fail
      clear u0 u1 q1 q1' q2 q2'
      go_loopw [3] (fun i y => ∃ k : Nat, k ≤ m ∧ i = .int .i64 k ∧ Hid (∀ (j : Nat) (a : Ans), j < k → d.an[j]? = some a → raB d j a = true) ∧ Grew wd y) (fun i _ => m - (intOf i).toNat)
      case atStart => exact ⟨0, Nat.zero_le _, rfl, fun j a hj _ => absurd hj (Nat.not_lt_zero j), Grew.refl _⟩
      case round =>
        obtain ⟨k, hk, rfl, HK, hg⟩ := hrel
        have r0 := range_grew HR.out hg 0 _ rfl
        have r1 := range_grew HR.out hg 1 _ rfl
        simp only [Nat.zero_add] at r0 r1
        by_cases hlt : k < m
        · obtain ⟨b, o, x, rfl, hx, hr⟩ := (HH.out.2.grew (G0.out.trans hg.drew)).at_ ae_ok hlt
          have HX := Lib.hid hx
          have HRX := Lib.hid hr
          have HRW := Lib.hid (range_grew HR.out hg.drew)
          have k0 : (0 : Int) ≤ (k : Int) := by omega
          have k1 : (k : Int) < (m : Int) := by omega
          clear hx hr
          go_wp2_with fail
          cases hax : ansB x with
          | false =>
            have HB : Hid (validB d = false) := rv_a HX.out (by unfold raB; rw [hax]; rfl)
            have HAX := Lib.hid hax
            clear hax
            have hC : ∀ w', Grew wr.drew w' → w'.cell? ⟨bd, 0, none⟩ = some (.slice A n c) ∧ w'.cell? ⟨bd, 1, none⟩ = some (.slice (some ⟨b, o, none⟩) m e) ∧ (w'.cell? ⟨b, o + k * 5, none⟩ = some (.int .i64 x.q) ∧ w'.cell? ⟨b, o + k * 5 + 1, none⟩ = some (.int .i64 x.id) ∧ w'.cell? ⟨b, o + k * 5 + 2, none⟩ = some (.int .i64 x.k) ∧ w'.cell? ⟨b, o + k * 5 + 3, none⟩ = some (.int .i64 x.c) ∧ w'.cell? ⟨b, o + k * 5 + 4, none⟩ = some (.int .i64 x.d)) := fun w' g' => by
              have s0 := range_grew HRW.out g' 0 _ rfl
              have s1 := range_grew HRW.out g' 1 _ rfl
              simp only [Nat.zero_add] at s0 s1
              exact ⟨s0, s1, a_cells (range_grew HRX.out g')⟩
            refine wp_region_seq (by kernel_rfl) Grew.refl (fun _ _ _ => Grew.trans) (fun _ _ _ _ _ h => h) (by kernel_rfl) ?_
            repeat (first
              | (refine TakeAll.pure (v := ?_) (by rfl) ?_ ?_; rotate_left; (intro w' g'; obtain ⟨s0, s1, ⟨c0, c1, c2, c3, c4⟩⟩ := hC w' g'; go_simp; first | done | with_reducible rfl); (simp only [Act.put, List.setIfInBounds_toArray, List.set_cons_zero, List.set_cons_succ]))
              | (refine TakeAll.skip (by rfl) ?_; (simp only [Act.put, List.setIfInBounds_toArray, List.set_cons_zero, List.set_cons_succ])))
            refine TakeAll.call (by rfl) 43 _ (fun _ => by go_simp; first | done | rfl) (fun w' g' => rans_val HAX.out w') ?_
            simp only [Act.put, List.setIfInBounds_toArray, List.set_cons_zero, List.set_cons_succ]
            repeat (first
              | (refine TakeAll.pure (v := ?_) (by rfl) ?_ ?_; rotate_left; (intro w' g'; obtain ⟨s0, s1, ⟨c0, c1, c2, c3, c4⟩⟩ := hC w' g'; go_simp; first | done | with_reducible rfl); (simp only [Act.put, List.setIfInBounds_toArray, List.set_cons_zero, List.set_cons_succ]))
              | (refine TakeAll.skip (by rfl) ?_; (simp only [Act.put, List.setIfInBounds_toArray, List.set_cons_zero, List.set_cons_succ])))
            refine TakeAll.nil ?_
            intro w5 g5
            have gE := (hg.drew).trans g5
            clear hC r0 r1
            go_wp2_with fail
            go_ret
            exact ⟨ret_bool HB.out.symm, G0.out.trans gE⟩
          | true =>
            have HAX := Lib.hid hax
            clear hax
            by_cases hk0 : k = 0
            · have HPV : Hid (prevQ d.an k x = true) := by rw [hk0]; rfl
              have q0 : decide (0 < k) = false := decide_eq_false (by omega)
              have q0' : decide ((0 : Int) < (k : Int)) = false := decide_eq_false (by omega)
              clear hk0
              have hC : ∀ w', Grew wr.drew w' → w'.cell? ⟨bd, 0, none⟩ = some (.slice A n c) ∧ w'.cell? ⟨bd, 1, none⟩ = some (.slice (some ⟨b, o, none⟩) m e) ∧ (w'.cell? ⟨b, o + k * 5, none⟩ = some (.int .i64 x.q) ∧ w'.cell? ⟨b, o + k * 5 + 1, none⟩ = some (.int .i64 x.id) ∧ w'.cell? ⟨b, o + k * 5 + 2, none⟩ = some (.int .i64 x.k) ∧ w'.cell? ⟨b, o + k * 5 + 3, none⟩ = some (.int .i64 x.c) ∧ w'.cell? ⟨b, o + k * 5 + 4, none⟩ = some (.int .i64 x.d)) := fun w' g' => by
                have s0 := range_grew HRW.out g' 0 _ rfl
                have s1 := range_grew HRW.out g' 1 _ rfl
                simp only [Nat.zero_add] at s0 s1
                exact ⟨s0, s1, a_cells (range_grew HRX.out g')⟩
              cases hz : hasId d.ss x.id with
              | false =>
                have HZ : Hid (findI d.ss x.id = -1) := findI_miss hz
                have HB : Hid (validB d = false) := rv_a HX.out (by unfold raB; rw [hz, Bool.and_false])
                refine wp_region_seq (by kernel_rfl) Grew.refl (fun _ _ _ => Grew.trans) (fun _ _ _ _ _ h => h) (by kernel_rfl) ?_
                repeat (first
                  | (refine TakeAll.pure (v := ?_) (by rfl) ?_ ?_; rotate_left; (intro w' g'; obtain ⟨s0, s1, ⟨c0, c1, c2, c3, c4⟩⟩ := hC w' g'; go_simp; first | done | with_reducible rfl); (simp only [Act.put, List.setIfInBounds_toArray, List.set_cons_zero, List.set_cons_succ]))
                  | (refine TakeAll.skip (by rfl) ?_; (simp only [Act.put, List.setIfInBounds_toArray, List.set_cons_zero, List.set_cons_succ])))
                refine TakeAll.call (by rfl) 43 _ (fun _ => by go_simp; first | done | rfl) (fun w' g' => rans_val HAX.out w') ?_
                simp only [Act.put, List.setIfInBounds_toArray, List.set_cons_zero, List.set_cons_succ]
                repeat (first
                  | (refine TakeAll.pure (v := ?_) (by rfl) ?_ ?_; rotate_left; (intro w' g'; obtain ⟨s0, s1, ⟨c0, c1, c2, c3, c4⟩⟩ := hC w' g'; go_simp; first | done | with_reducible rfl); (simp only [Act.put, List.setIfInBounds_toArray, List.set_cons_zero, List.set_cons_succ]))
                  | (refine TakeAll.skip (by rfl) ?_; (simp only [Act.put, List.setIfInBounds_toArray, List.set_cons_zero, List.set_cons_succ])))
                refine TakeAll.call (by rfl) 34 _ (fun _ => by go_simp; first | done | rfl) (fun w' g' => rfind_val (HH.out.grew ((G0.out.trans hg.drew).trans g')) HZ.out) ?_
                simp only [Act.put, List.setIfInBounds_toArray, List.set_cons_zero, List.set_cons_succ]
                repeat (first
                  | (refine TakeAll.pure (v := ?_) (by rfl) ?_ ?_; rotate_left; (intro w' g'; obtain ⟨s0, s1, ⟨c0, c1, c2, c3, c4⟩⟩ := hC w' g'; go_simp; first | done | with_reducible rfl); (simp only [Act.put, List.setIfInBounds_toArray, List.set_cons_zero, List.set_cons_succ]))
                  | (refine TakeAll.skip (by rfl) ?_; (simp only [Act.put, List.setIfInBounds_toArray, List.set_cons_zero, List.set_cons_succ])))
                refine TakeAll.nil ?_
                intro w5 g5
                have gE := (hg.drew).trans g5
                clear hC r0 r1
                go_wp2_with fail
                go_ret
                exact ⟨ret_bool HB.out.symm, G0.out.trans gE⟩
              | true =>
                obtain ⟨z, hz0⟩ : ∃ z, findI d.ss x.id = z := ⟨_, rfl⟩
                have HZ := Lib.hid hz0
                have hz1 : 0 ≤ z := by rw [← hz0]; exact findI_pos hz
                have qz : decide (z < 0) = false := decide_eq_false (by omega)
                have HK2 : Hid (∀ (j : Nat) (a : Ans), j < k + 1 → d.an[j]? = some a → raB d j a = true) := fun j a hj ha => by
                  rcases Nat.lt_succ_iff_lt_or_eq.1 hj with h | rfl
                  · exact HK.out j a h ha
                  · rw [HX.out] at ha
                    injection ha with ha
                    subst ha
                    unfold raB
                    rw [HAX.out, HPV.out, hz]; rfl
                clear hz hz0
                refine wp_region_seq (by kernel_rfl) Grew.refl (fun _ _ _ => Grew.trans) (fun _ _ _ _ _ h => h) (by kernel_rfl) ?_
                repeat (first
                  | (refine TakeAll.pure (v := ?_) (by rfl) ?_ ?_; rotate_left; (intro w' g'; obtain ⟨s0, s1, ⟨c0, c1, c2, c3, c4⟩⟩ := hC w' g'; go_simp; first | done | with_reducible rfl); (simp only [Act.put, List.setIfInBounds_toArray, List.set_cons_zero, List.set_cons_succ]))
                  | (refine TakeAll.skip (by rfl) ?_; (simp only [Act.put, List.setIfInBounds_toArray, List.set_cons_zero, List.set_cons_succ])))
                refine TakeAll.call (by rfl) 43 _ (fun _ => by go_simp; first | done | rfl) (fun w' g' => rans_val HAX.out w') ?_
                simp only [Act.put, List.setIfInBounds_toArray, List.set_cons_zero, List.set_cons_succ]
                repeat (first
                  | (refine TakeAll.pure (v := ?_) (by rfl) ?_ ?_; rotate_left; (intro w' g'; obtain ⟨s0, s1, ⟨c0, c1, c2, c3, c4⟩⟩ := hC w' g'; go_simp; first | done | with_reducible rfl); (simp only [Act.put, List.setIfInBounds_toArray, List.set_cons_zero, List.set_cons_succ]))
                  | (refine TakeAll.skip (by rfl) ?_; (simp only [Act.put, List.setIfInBounds_toArray, List.set_cons_zero, List.set_cons_succ])))
                refine TakeAll.call (by rfl) 34 _ (fun _ => by go_simp; first | done | rfl) (fun w' g' => rfind_val (HH.out.grew ((G0.out.trans hg.drew).trans g')) HZ.out) ?_
                simp only [Act.put, List.setIfInBounds_toArray, List.set_cons_zero, List.set_cons_succ]
                repeat (first
                  | (refine TakeAll.pure (v := ?_) (by rfl) ?_ ?_; rotate_left; (intro w' g'; obtain ⟨s0, s1, ⟨c0, c1, c2, c3, c4⟩⟩ := hC w' g'; go_simp; first | done | with_reducible rfl); (simp only [Act.put, List.setIfInBounds_toArray, List.set_cons_zero, List.set_cons_succ]))
                  | (refine TakeAll.skip (by rfl) ?_; (simp only [Act.put, List.setIfInBounds_toArray, List.set_cons_zero, List.set_cons_succ])))
                refine TakeAll.nil ?_
                intro w5 g5
                have gE := (hg.drew).trans g5
                clear hC r0 r1
                go_wp2_with fail
                go_roundw
                case rel => exact ⟨k + 1, by omega, by go_num, HK2, gE⟩
                case measure => simp [intOf]; omega
            · have q0 : decide (0 < k) = true := decide_eq_true (by omega)
              have q0' : decide ((0 : Int) < (k : Int)) = true := decide_eq_true (by omega)
              obtain ⟨b', o', y, hyb, hy, hry⟩ := (HH.out.2.grew (G0.out.trans hg.drew)).at_ ae_ok (show k - 1 < m by omega)
              injection hyb with hyb
              injection hyb with i1 i2
              subst i1 i2
              have HRY := Lib.hid hry
              have HY := Lib.hid hy
              have m1 : IntKind.i64.wrap ((k : Int) - 1) = (k : Int) - 1 := IntWalk.i64_in _ (by omega)
              have m2 : ((k : Int) - 1).toNat = k - 1 := by omega
              have m3 : (0 : Int) ≤ (k : Int) - 1 := by omega
              have m3' : (1 : Int) ≤ (k : Int) := by omega
              have m4 : (k : Int) - 1 < (m : Int) := by omega
              clear hy hry
              have hC : ∀ w', Grew wr.drew w' → w'.cell? ⟨bd, 0, none⟩ = some (.slice A n c) ∧ w'.cell? ⟨bd, 1, none⟩ = some (.slice (some ⟨b, o, none⟩) m e) ∧ (w'.cell? ⟨b, o + k * 5, none⟩ = some (.int .i64 x.q) ∧ w'.cell? ⟨b, o + k * 5 + 1, none⟩ = some (.int .i64 x.id) ∧ w'.cell? ⟨b, o + k * 5 + 2, none⟩ = some (.int .i64 x.k) ∧ w'.cell? ⟨b, o + k * 5 + 3, none⟩ = some (.int .i64 x.c) ∧ w'.cell? ⟨b, o + k * 5 + 4, none⟩ = some (.int .i64 x.d)) ∧ w'.cell? ⟨b, o + (k - 1) * 5, none⟩ = some (.int .i64 y.q) := fun w' g' => by
                have s0 := range_grew HRW.out g' 0 _ rfl
                have s1 := range_grew HRW.out g' 1 _ rfl
                simp only [Nat.zero_add] at s0 s1
                exact ⟨s0, s1, a_cells (range_grew HRX.out g'), (a_cells (range_grew HRY.out g')).1⟩
              by_cases hq : y.q < x.q
              · have q2 : decide (x.q ≤ y.q) = false := decide_eq_false (by omega)
                have HPV : Hid (prevQ d.an k x = true) := prev_pos (by omega) HY.out (decide_eq_true hq)
                clear hq
                cases hz : hasId d.ss x.id with
                | false =>
                  have HZ : Hid (findI d.ss x.id = -1) := findI_miss hz
                  have HB : Hid (validB d = false) := rv_a HX.out (by unfold raB; rw [hz, Bool.and_false])
                  refine wp_region_seq (by kernel_rfl) Grew.refl (fun _ _ _ => Grew.trans) (fun _ _ _ _ _ h => h) (by kernel_rfl) ?_
                  repeat (first
                    | (refine TakeAll.pure (v := ?_) (by rfl) ?_ ?_; rotate_left; (intro w' g'; obtain ⟨s0, s1, ⟨c0, c1, c2, c3, c4⟩, y0⟩ := hC w' g'; go_simp; first | done | with_reducible rfl); (simp only [Act.put, List.setIfInBounds_toArray, List.set_cons_zero, List.set_cons_succ]))
                    | (refine TakeAll.skip (by rfl) ?_; (simp only [Act.put, List.setIfInBounds_toArray, List.set_cons_zero, List.set_cons_succ])))
                  refine TakeAll.call (by rfl) 43 _ (fun _ => by go_simp; first | done | rfl) (fun w' g' => rans_val HAX.out w') ?_
                  simp only [Act.put, List.setIfInBounds_toArray, List.set_cons_zero, List.set_cons_succ]
                  repeat (first
                    | (refine TakeAll.pure (v := ?_) (by rfl) ?_ ?_; rotate_left; (intro w' g'; obtain ⟨s0, s1, ⟨c0, c1, c2, c3, c4⟩, y0⟩ := hC w' g'; go_simp; first | done | with_reducible rfl); (simp only [Act.put, List.setIfInBounds_toArray, List.set_cons_zero, List.set_cons_succ]))
                    | (refine TakeAll.skip (by rfl) ?_; (simp only [Act.put, List.setIfInBounds_toArray, List.set_cons_zero, List.set_cons_succ])))
                  refine TakeAll.call (by rfl) 34 _ (fun _ => by go_simp; first | done | rfl) (fun w' g' => rfind_val (HH.out.grew ((G0.out.trans hg.drew).trans g')) HZ.out) ?_
                  simp only [Act.put, List.setIfInBounds_toArray, List.set_cons_zero, List.set_cons_succ]
                  repeat (first
                    | (refine TakeAll.pure (v := ?_) (by rfl) ?_ ?_; rotate_left; (intro w' g'; obtain ⟨s0, s1, ⟨c0, c1, c2, c3, c4⟩, y0⟩ := hC w' g'; go_simp; first | done | with_reducible rfl); (simp only [Act.put, List.setIfInBounds_toArray, List.set_cons_zero, List.set_cons_succ]))
                    | (refine TakeAll.skip (by rfl) ?_; (simp only [Act.put, List.setIfInBounds_toArray, List.set_cons_zero, List.set_cons_succ])))
                  refine TakeAll.nil ?_
                  intro w5 g5
                  have gE := (hg.drew).trans g5
                  clear hC r0 r1
                  go_wp2_with fail
                  go_ret
                  exact ⟨ret_bool HB.out.symm, G0.out.trans gE⟩
                | true =>
                  obtain ⟨z, hz0⟩ : ∃ z, findI d.ss x.id = z := ⟨_, rfl⟩
                  have HZ := Lib.hid hz0
                  have hz1 : 0 ≤ z := by rw [← hz0]; exact findI_pos hz
                  have qz : decide (z < 0) = false := decide_eq_false (by omega)
                  have HK2 : Hid (∀ (j : Nat) (a : Ans), j < k + 1 → d.an[j]? = some a → raB d j a = true) := fun j a hj ha => by
                    rcases Nat.lt_succ_iff_lt_or_eq.1 hj with h | rfl
                    · exact HK.out j a h ha
                    · rw [HX.out] at ha
                      injection ha with ha
                      subst ha
                      unfold raB
                      rw [HAX.out, HPV.out, hz]; rfl
                  clear hz hz0
                  refine wp_region_seq (by kernel_rfl) Grew.refl (fun _ _ _ => Grew.trans) (fun _ _ _ _ _ h => h) (by kernel_rfl) ?_
                  repeat (first
                    | (refine TakeAll.pure (v := ?_) (by rfl) ?_ ?_; rotate_left; (intro w' g'; obtain ⟨s0, s1, ⟨c0, c1, c2, c3, c4⟩, y0⟩ := hC w' g'; go_simp; first | done | with_reducible rfl); (simp only [Act.put, List.setIfInBounds_toArray, List.set_cons_zero, List.set_cons_succ]))
                    | (refine TakeAll.skip (by rfl) ?_; (simp only [Act.put, List.setIfInBounds_toArray, List.set_cons_zero, List.set_cons_succ])))
                  refine TakeAll.call (by rfl) 43 _ (fun _ => by go_simp; first | done | rfl) (fun w' g' => rans_val HAX.out w') ?_
                  simp only [Act.put, List.setIfInBounds_toArray, List.set_cons_zero, List.set_cons_succ]
                  repeat (first
                    | (refine TakeAll.pure (v := ?_) (by rfl) ?_ ?_; rotate_left; (intro w' g'; obtain ⟨s0, s1, ⟨c0, c1, c2, c3, c4⟩, y0⟩ := hC w' g'; go_simp; first | done | with_reducible rfl); (simp only [Act.put, List.setIfInBounds_toArray, List.set_cons_zero, List.set_cons_succ]))
                    | (refine TakeAll.skip (by rfl) ?_; (simp only [Act.put, List.setIfInBounds_toArray, List.set_cons_zero, List.set_cons_succ])))
                  refine TakeAll.call (by rfl) 34 _ (fun _ => by go_simp; first | done | rfl) (fun w' g' => rfind_val (HH.out.grew ((G0.out.trans hg.drew).trans g')) HZ.out) ?_
                  simp only [Act.put, List.setIfInBounds_toArray, List.set_cons_zero, List.set_cons_succ]
                  repeat (first
                    | (refine TakeAll.pure (v := ?_) (by rfl) ?_ ?_; rotate_left; (intro w' g'; obtain ⟨s0, s1, ⟨c0, c1, c2, c3, c4⟩, y0⟩ := hC w' g'; go_simp; first | done | with_reducible rfl); (simp only [Act.put, List.setIfInBounds_toArray, List.set_cons_zero, List.set_cons_succ]))
                    | (refine TakeAll.skip (by rfl) ?_; (simp only [Act.put, List.setIfInBounds_toArray, List.set_cons_zero, List.set_cons_succ])))
                  refine TakeAll.nil ?_
                  intro w5 g5
                  have gE := (hg.drew).trans g5
                  clear hC r0 r1
                  go_wp2_with fail
                  go_roundw
                  case rel => exact ⟨k + 1, by omega, by go_num, HK2, gE⟩
                  case measure => simp [intOf]; omega
              · have q2 : decide (x.q ≤ y.q) = true := decide_eq_true (by omega)
                have HB : Hid (validB d = false) := rv_a HX.out (by unfold raB; rw [prev_pos (by omega) HY.out (decide_eq_false hq), Bool.and_false]; rfl)
                clear hq
                refine wp_region_seq (by kernel_rfl) Grew.refl (fun _ _ _ => Grew.trans) (fun _ _ _ _ _ h => h) (by kernel_rfl) ?_
                repeat (first
                  | (refine TakeAll.pure (v := ?_) (by rfl) ?_ ?_; rotate_left; (intro w' g'; obtain ⟨s0, s1, ⟨c0, c1, c2, c3, c4⟩, y0⟩ := hC w' g'; go_simp; first | done | with_reducible rfl); (simp only [Act.put, List.setIfInBounds_toArray, List.set_cons_zero, List.set_cons_succ]))
                  | (refine TakeAll.skip (by rfl) ?_; (simp only [Act.put, List.setIfInBounds_toArray, List.set_cons_zero, List.set_cons_succ])))
                refine TakeAll.call (by rfl) 43 _ (fun _ => by go_simp; first | done | rfl) (fun w' g' => rans_val HAX.out w') ?_
                simp only [Act.put, List.setIfInBounds_toArray, List.set_cons_zero, List.set_cons_succ]
                repeat (first
                  | (refine TakeAll.pure (v := ?_) (by rfl) ?_ ?_; rotate_left; (intro w' g'; obtain ⟨s0, s1, ⟨c0, c1, c2, c3, c4⟩, y0⟩ := hC w' g'; go_simp; first | done | with_reducible rfl); (simp only [Act.put, List.setIfInBounds_toArray, List.set_cons_zero, List.set_cons_succ]))
                  | (refine TakeAll.skip (by rfl) ?_; (simp only [Act.put, List.setIfInBounds_toArray, List.set_cons_zero, List.set_cons_succ])))
                refine TakeAll.nil ?_
                intro w5 g5
                have gE := (hg.drew).trans g5
                clear hC r0 r1
                go_wp2_with fail
                go_ret
                exact ⟨ret_bool HB.out.symm, G0.out.trans gE⟩
        · have hkm : k = m := by omega
          have HALLR : Hid (∀ (j : Nat) (a : Ans), d.an[j]? = some a → raB d j a = true) := fun j a ha => HK.out j a (by have := (List.getElem?_eq_some_iff.1 ha).1; have := HLA.out; omega) ha
          have HALL : Hid (∀ a ∈ d.an, ansB a = true) := fun a ha => by
            obtain ⟨j, hj⟩ := List.mem_iff_getElem?.1 ha
            have := HALLR.out j a hj
            unfold raB at this
            simp only [Bool.and_eq_true] at this
            exact this.1.1
          have hg1 := hg
          clear HK
          go_wp2_with fail
          clear r0 r1 hg
          go_loopw [4] (fun i y => ∃ k : Nat, k ≤ n ∧ i = .int .i64 k ∧ Hid (∀ (j : Nat) (s : Sta), j < k → d.ss[j]? = some s → rsB d j s = true) ∧ Grew wd y) (fun i _ => n - (intOf i).toNat)
          case atStart => exact ⟨0, Nat.zero_le _, rfl, fun j a hj _ => absurd hj (Nat.not_lt_zero j), hg1⟩
          case round =>
            clear hg1 hkm hk hlt
            obtain ⟨k, hk, rfl, HK, hg⟩ := hrel
            have r0 := range_grew HR.out hg 0 _ rfl
            have r1 := range_grew HR.out hg 1 _ rfl
            simp only [Nat.zero_add] at r0 r1
            by_cases hlt : k < n
            · obtain ⟨b, o, x, rfl, hx, hr⟩ := (HH.out.1.1.grew (G0.out.trans hg)).at_ se_ok hlt
              have HX := Lib.hid hx
              have k0 : (0 : Int) ≤ (k : Int) := by omega
              have k1 : (k : Int) < (n : Int) := by omega
              obtain ⟨c0, c1, c2, c3, c4, c5, c6⟩ := s_cells hr
              have HRX := Lib.hid hr
              obtain ⟨wa, hwa⟩ : ∃ y, y = wr.alloc (.cells #[.int .i64 x.p.id, .string x.p.acc, .int .i64 x.p.c, .int .i64 x.p.d] 27) := ⟨_, rfl⟩
              have ga : Grew wr wa := by rw [hwa]; exact (Grew.refl wr).alloc _
              obtain ⟨b5, hb5⟩ : ∃ z, z = wr.heap.size := ⟨_, rfl⟩
              have HRP : Hid (wa.rangeAt b5 0 (pe x.p)) := by unfold Hid; rw [hwa, hb5]; exact range_new wr (pe x.p) 27
              have gA := hg.trans ga
              have HPW : Hid (x.p.acc.size ≤ maxLen) := HH.out.1.2 x (List.mem_of_getElem? hx)
              obtain ⟨p0, p1, p2, p3⟩ := p_cells0 HRP.out
              replace r1 := range_grew HR.out gA 1 _ rfl
              simp only [Nat.zero_add] at r1
              clear hx hr
              cases hp : payB x.p with
              | false =>
                have HP := Lib.hid hp
                have HB : Hid (validB d = false) := rv_s HX.out (by unfold rsB; rw [hp]; rfl)
                obtain ⟨tt, HT⟩ : ∃ t, Hid (rstB x.p d.an = t) := ⟨_, rfl⟩
                clear hp
                go_upto_region 12 with (fail)
                rw [← hwa, ← hb5]
                clear hwa hb5 r0 c0 c1 c2 c3 c4 c5 c6
                go_wp2_with fail
                refine (rstand_val (p := x.p) (HH.out.2.grew (G0.out.trans gA)) (fun a ha => HALL.out a ha) (by omega) HT.out).mono ?_
                rintro r w6 ⟨s, rfl, hst, g6⟩
                rw [sv_eq]
                obtain ⟨wb, hwb⟩ : ∃ y, y = w6.alloc (.cells #[.int .i64 s.p.id, .string s.p.acc, .int .i64 s.p.c, .int .i64 s.p.d, .int .i64 s.st, .int .i64 s.pd, .int .i64 s.bk] 43) := ⟨_, rfl⟩
                have gb : Grew w6 wb := by rw [hwb]; exact (Grew.refl w6).alloc _
                obtain ⟨b6, hb6⟩ : ∃ z, z = w6.heap.size := ⟨_, rfl⟩
                have HRS : Hid (wb.rangeAt b6 0 (se s)) := by unfold Hid; rw [hwb, hb6]; exact range_new w6 (se s) 43
                have gBd : Grew wd wb.drew := ((gA.trans g6).trans gb).drew
                have HSS := Lib.hid hst
                have HRPd := Lib.hid (range_grew (range_grew HRP.out (g6.trans gb)) (Grew.refl wb).drew)
                have HRSd := Lib.hid (range_grew HRS.out (Grew.refl wb).drew)
                have HRXd := Lib.hid (range_grew HRX.out (((ga.trans g6).trans gb).drew))
                have HRd := Lib.hid (range_grew HR.out gBd)
                have hC : ∀ w', Grew wb.drew w' → (w'.cell? ⟨b5, 0, none⟩ = some (.int .i64 x.p.id) ∧ w'.cell? ⟨b5, 1, none⟩ = some (.string x.p.acc) ∧ w'.cell? ⟨b5, 2, none⟩ = some (.int .i64 x.p.c) ∧ w'.cell? ⟨b5, 3, none⟩ = some (.int .i64 x.p.d)) ∧ w'.cell? ⟨bd, 0, none⟩ = some (.slice (some ⟨b, o, none⟩) n c) ∧ w'.cell? ⟨bd, 1, none⟩ = some (.slice B m e) ∧ (w'.cell? ⟨b6, 0, none⟩ = some (.int .i64 s.p.id) ∧ w'.cell? ⟨b6, 1, none⟩ = some (.string s.p.acc) ∧ w'.cell? ⟨b6, 2, none⟩ = some (.int .i64 s.p.c) ∧ w'.cell? ⟨b6, 3, none⟩ = some (.int .i64 s.p.d) ∧ w'.cell? ⟨b6, 4, none⟩ = some (.int .i64 s.st) ∧ w'.cell? ⟨b6, 5, none⟩ = some (.int .i64 s.pd) ∧ w'.cell? ⟨b6, 6, none⟩ = some (.int .i64 s.bk)) ∧ w'.cell? ⟨b, o + k * 7, none⟩ = some (.int .i64 x.p.id) ∧ w'.cell? ⟨b, o + k * 7 + 1, none⟩ = some (.string x.p.acc) ∧ w'.cell? ⟨b, o + k * 7 + 2, none⟩ = some (.int .i64 x.p.c) ∧ w'.cell? ⟨b, o + k * 7 + 3, none⟩ = some (.int .i64 x.p.d) ∧ w'.cell? ⟨b, o + k * 7 + 4, none⟩ = some (.int .i64 x.st) ∧ w'.cell? ⟨b, o + k * 7 + 5, none⟩ = some (.int .i64 x.pd) ∧ w'.cell? ⟨b, o + k * 7 + 6, none⟩ = some (.int .i64 x.bk) := fun w' g' => by
                  have s0 := range_grew HRd.out g' 0 _ rfl
                  have s1 := range_grew HRd.out g' 1 _ rfl
                  simp only [Nat.zero_add] at s0 s1
                  exact ⟨p_cells0 (range_grew HRPd.out g'), s0, s1, s_cells0 (range_grew HRSd.out g'), s_cells (range_grew HRXd.out g')⟩
                clear hst g6
                go_upto_region 13 with (fail)
                rw [← hwb, ← hb6]
                clear hwb hb6 r1 p0 p1 p2 p3
                refine wp_region_seq (by kernel_rfl) Grew.refl (fun _ _ _ => Grew.trans) (fun _ _ _ _ _ h => h) (by kernel_rfl) ?_
                repeat (first
                  | (refine TakeAll.pure (v := ?_) (by rfl) ?_ ?_; rotate_left; (intro w' g'; obtain ⟨⟨p0, p1, p2, p3⟩, s0, s1, ⟨t0, t1, t2, t3, t4, t5, t6⟩, c0, c1, c2, c3, c4, c5, c6⟩ := hC w' g'; go_simp; first | done | with_reducible rfl); (simp only [Act.put, List.setIfInBounds_toArray, List.set_cons_zero, List.set_cons_succ]))
                  | (refine TakeAll.skip (by rfl) ?_; (simp only [Act.put, List.setIfInBounds_toArray, List.set_cons_zero, List.set_cons_succ])))
                refine TakeAll.call (by rfl) 33 _ (fun _ => by go_simp; first | done | rfl) (fun w' g' => rpay_val HP.out HPW.out w') ?_
                simp only [Act.put, List.setIfInBounds_toArray, List.set_cons_zero, List.set_cons_succ]
                repeat (first
                  | (refine TakeAll.pure (v := ?_) (by rfl) ?_ ?_; rotate_left; (intro w' g'; obtain ⟨⟨p0, p1, p2, p3⟩, s0, s1, ⟨t0, t1, t2, t3, t4, t5, t6⟩, c0, c1, c2, c3, c4, c5, c6⟩ := hC w' g'; go_simp; first | done | with_reducible rfl); (simp only [Act.put, List.setIfInBounds_toArray, List.set_cons_zero, List.set_cons_succ]))
                  | (refine TakeAll.skip (by rfl) ?_; (simp only [Act.put, List.setIfInBounds_toArray, List.set_cons_zero, List.set_cons_succ])))
                refine TakeAll.nil ?_
                intro w5 g5
                have gE := gBd.trans g5
                clear hC
                go_wp2_with fail
                go_ret
                exact ⟨ret_bool HB.out.symm, G0.out.trans gE⟩
              | true =>
                have HP := Lib.hid hp
                clear hp
                by_cases hz : findI d.ss x.p.id = (k : Int)
                · have HZ := Lib.hid hz
                  have q3 : ((k : Int) != (k : Int)) = false := by simp
                  cases ht : rstB x.p d.an with
                  | false =>
                    have HT := Lib.hid ht
                    have HB : Hid (validB d = false) := rv_s HX.out (by unfold rsB; rw [ht]; simp)
                    clear ht hz
                    go_upto_region 12 with (fail)
                    rw [← hwa, ← hb5]
                    clear hwa hb5 r0 c0 c1 c2 c3 c4 c5 c6
                    go_wp2_with fail
                    refine (rstand_val (p := x.p) (HH.out.2.grew (G0.out.trans gA)) (fun a ha => HALL.out a ha) (by omega) HT.out).mono ?_
                    rintro r w6 ⟨s, rfl, hst, g6⟩
                    rw [sv_eq]
                    obtain ⟨wb, hwb⟩ : ∃ y, y = w6.alloc (.cells #[.int .i64 s.p.id, .string s.p.acc, .int .i64 s.p.c, .int .i64 s.p.d, .int .i64 s.st, .int .i64 s.pd, .int .i64 s.bk] 43) := ⟨_, rfl⟩
                    have gb : Grew w6 wb := by rw [hwb]; exact (Grew.refl w6).alloc _
                    obtain ⟨b6, hb6⟩ : ∃ z, z = w6.heap.size := ⟨_, rfl⟩
                    have HRS : Hid (wb.rangeAt b6 0 (se s)) := by unfold Hid; rw [hwb, hb6]; exact range_new w6 (se s) 43
                    have gBd : Grew wd wb.drew := ((gA.trans g6).trans gb).drew
                    have HSS := Lib.hid hst
                    have HRPd := Lib.hid (range_grew (range_grew HRP.out (g6.trans gb)) (Grew.refl wb).drew)
                    have HRSd := Lib.hid (range_grew HRS.out (Grew.refl wb).drew)
                    have HRXd := Lib.hid (range_grew HRX.out (((ga.trans g6).trans gb).drew))
                    have HRd := Lib.hid (range_grew HR.out gBd)
                    have hC : ∀ w', Grew wb.drew w' → (w'.cell? ⟨b5, 0, none⟩ = some (.int .i64 x.p.id) ∧ w'.cell? ⟨b5, 1, none⟩ = some (.string x.p.acc) ∧ w'.cell? ⟨b5, 2, none⟩ = some (.int .i64 x.p.c) ∧ w'.cell? ⟨b5, 3, none⟩ = some (.int .i64 x.p.d)) ∧ w'.cell? ⟨bd, 0, none⟩ = some (.slice (some ⟨b, o, none⟩) n c) ∧ w'.cell? ⟨bd, 1, none⟩ = some (.slice B m e) ∧ (w'.cell? ⟨b6, 0, none⟩ = some (.int .i64 s.p.id) ∧ w'.cell? ⟨b6, 1, none⟩ = some (.string s.p.acc) ∧ w'.cell? ⟨b6, 2, none⟩ = some (.int .i64 s.p.c) ∧ w'.cell? ⟨b6, 3, none⟩ = some (.int .i64 s.p.d) ∧ w'.cell? ⟨b6, 4, none⟩ = some (.int .i64 s.st) ∧ w'.cell? ⟨b6, 5, none⟩ = some (.int .i64 s.pd) ∧ w'.cell? ⟨b6, 6, none⟩ = some (.int .i64 s.bk)) ∧ w'.cell? ⟨b, o + k * 7, none⟩ = some (.int .i64 x.p.id) ∧ w'.cell? ⟨b, o + k * 7 + 1, none⟩ = some (.string x.p.acc) ∧ w'.cell? ⟨b, o + k * 7 + 2, none⟩ = some (.int .i64 x.p.c) ∧ w'.cell? ⟨b, o + k * 7 + 3, none⟩ = some (.int .i64 x.p.d) ∧ w'.cell? ⟨b, o + k * 7 + 4, none⟩ = some (.int .i64 x.st) ∧ w'.cell? ⟨b, o + k * 7 + 5, none⟩ = some (.int .i64 x.pd) ∧ w'.cell? ⟨b, o + k * 7 + 6, none⟩ = some (.int .i64 x.bk) := fun w' g' => by
                      have s0 := range_grew HRd.out g' 0 _ rfl
                      have s1 := range_grew HRd.out g' 1 _ rfl
                      simp only [Nat.zero_add] at s0 s1
                      exact ⟨p_cells0 (range_grew HRPd.out g'), s0, s1, s_cells0 (range_grew HRSd.out g'), s_cells (range_grew HRXd.out g')⟩
                    clear hst g6
                    go_upto_region 13 with (fail)
                    rw [← hwb, ← hb6]
                    clear hwb hb6 r1 p0 p1 p2 p3
                    refine wp_region_seq (by kernel_rfl) Grew.refl (fun _ _ _ => Grew.trans) (fun _ _ _ _ _ h => h) (by kernel_rfl) ?_
                    repeat (first
                      | (refine TakeAll.pure (v := ?_) (by rfl) ?_ ?_; rotate_left; (intro w' g'; obtain ⟨⟨p0, p1, p2, p3⟩, s0, s1, ⟨t0, t1, t2, t3, t4, t5, t6⟩, c0, c1, c2, c3, c4, c5, c6⟩ := hC w' g'; go_simp; first | done | with_reducible rfl); (simp only [Act.put, List.setIfInBounds_toArray, List.set_cons_zero, List.set_cons_succ]))
                      | (refine TakeAll.skip (by rfl) ?_; (simp only [Act.put, List.setIfInBounds_toArray, List.set_cons_zero, List.set_cons_succ])))
                    refine TakeAll.call (by rfl) 33 _ (fun _ => by go_simp; first | done | rfl) (fun w' g' => rpay_val HP.out HPW.out w') ?_
                    simp only [Act.put, List.setIfInBounds_toArray, List.set_cons_zero, List.set_cons_succ]
                    repeat (first
                      | (refine TakeAll.pure (v := ?_) (by rfl) ?_ ?_; rotate_left; (intro w' g'; obtain ⟨⟨p0, p1, p2, p3⟩, s0, s1, ⟨t0, t1, t2, t3, t4, t5, t6⟩, c0, c1, c2, c3, c4, c5, c6⟩ := hC w' g'; go_simp; first | done | with_reducible rfl); (simp only [Act.put, List.setIfInBounds_toArray, List.set_cons_zero, List.set_cons_succ]))
                      | (refine TakeAll.skip (by rfl) ?_; (simp only [Act.put, List.setIfInBounds_toArray, List.set_cons_zero, List.set_cons_succ])))
                    refine TakeAll.call (by rfl) 34 _ (fun _ => by go_simp; first | done | rfl) (fun w' g' => rfind_val (HH.out.grew ((G0.out.trans gBd).trans g')) HZ.out) ?_
                    simp only [Act.put, List.setIfInBounds_toArray, List.set_cons_zero, List.set_cons_succ]
                    repeat (first
                      | (refine TakeAll.pure (v := ?_) (by rfl) ?_ ?_; rotate_left; (intro w' g'; obtain ⟨⟨p0, p1, p2, p3⟩, s0, s1, ⟨t0, t1, t2, t3, t4, t5, t6⟩, c0, c1, c2, c3, c4, c5, c6⟩ := hC w' g'; go_simp; first | done | with_reducible rfl); (simp only [Act.put, List.setIfInBounds_toArray, List.set_cons_zero, List.set_cons_succ]))
                      | (refine TakeAll.skip (by rfl) ?_; (simp only [Act.put, List.setIfInBounds_toArray, List.set_cons_zero, List.set_cons_succ])))
                    refine TakeAll.nil ?_
                    intro w5 g5
                    have gE := gBd.trans g5
                    clear hC
                    go_wp2_with fail
                    go_ret
                    exact ⟨ret_bool HB.out.symm, G0.out.trans gE⟩
                  | true =>
                    have HT := Lib.hid ht
                    clear ht hz
                    go_upto_region 12 with (fail)
                    rw [← hwa, ← hb5]
                    clear hwa hb5 r0 c0 c1 c2 c3 c4 c5 c6
                    go_wp2_with fail
                    refine (rstand_val (p := x.p) (HH.out.2.grew (G0.out.trans gA)) (fun a ha => HALL.out a ha) (by omega) HT.out).mono ?_
                    rintro r w6 ⟨s, rfl, hst, g6⟩
                    rw [sv_eq]
                    obtain ⟨wb, hwb⟩ : ∃ y, y = w6.alloc (.cells #[.int .i64 s.p.id, .string s.p.acc, .int .i64 s.p.c, .int .i64 s.p.d, .int .i64 s.st, .int .i64 s.pd, .int .i64 s.bk] 43) := ⟨_, rfl⟩
                    have gb : Grew w6 wb := by rw [hwb]; exact (Grew.refl w6).alloc _
                    obtain ⟨b6, hb6⟩ : ∃ z, z = w6.heap.size := ⟨_, rfl⟩
                    have HRS : Hid (wb.rangeAt b6 0 (se s)) := by unfold Hid; rw [hwb, hb6]; exact range_new w6 (se s) 43
                    have gBd : Grew wd wb.drew := ((gA.trans g6).trans gb).drew
                    have HSS := Lib.hid hst
                    have HRPd := Lib.hid (range_grew (range_grew HRP.out (g6.trans gb)) (Grew.refl wb).drew)
                    have HRSd := Lib.hid (range_grew HRS.out (Grew.refl wb).drew)
                    have HRXd := Lib.hid (range_grew HRX.out (((ga.trans g6).trans gb).drew))
                    have HRd := Lib.hid (range_grew HR.out gBd)
                    have hC : ∀ w', Grew wb.drew w' → (w'.cell? ⟨b5, 0, none⟩ = some (.int .i64 x.p.id) ∧ w'.cell? ⟨b5, 1, none⟩ = some (.string x.p.acc) ∧ w'.cell? ⟨b5, 2, none⟩ = some (.int .i64 x.p.c) ∧ w'.cell? ⟨b5, 3, none⟩ = some (.int .i64 x.p.d)) ∧ w'.cell? ⟨bd, 0, none⟩ = some (.slice (some ⟨b, o, none⟩) n c) ∧ w'.cell? ⟨bd, 1, none⟩ = some (.slice B m e) ∧ (w'.cell? ⟨b6, 0, none⟩ = some (.int .i64 s.p.id) ∧ w'.cell? ⟨b6, 1, none⟩ = some (.string s.p.acc) ∧ w'.cell? ⟨b6, 2, none⟩ = some (.int .i64 s.p.c) ∧ w'.cell? ⟨b6, 3, none⟩ = some (.int .i64 s.p.d) ∧ w'.cell? ⟨b6, 4, none⟩ = some (.int .i64 s.st) ∧ w'.cell? ⟨b6, 5, none⟩ = some (.int .i64 s.pd) ∧ w'.cell? ⟨b6, 6, none⟩ = some (.int .i64 s.bk)) ∧ w'.cell? ⟨b, o + k * 7, none⟩ = some (.int .i64 x.p.id) ∧ w'.cell? ⟨b, o + k * 7 + 1, none⟩ = some (.string x.p.acc) ∧ w'.cell? ⟨b, o + k * 7 + 2, none⟩ = some (.int .i64 x.p.c) ∧ w'.cell? ⟨b, o + k * 7 + 3, none⟩ = some (.int .i64 x.p.d) ∧ w'.cell? ⟨b, o + k * 7 + 4, none⟩ = some (.int .i64 x.st) ∧ w'.cell? ⟨b, o + k * 7 + 5, none⟩ = some (.int .i64 x.pd) ∧ w'.cell? ⟨b, o + k * 7 + 6, none⟩ = some (.int .i64 x.bk) := fun w' g' => by
                      have s0 := range_grew HRd.out g' 0 _ rfl
                      have s1 := range_grew HRd.out g' 1 _ rfl
                      simp only [Nat.zero_add] at s0 s1
                      exact ⟨p_cells0 (range_grew HRPd.out g'), s0, s1, s_cells0 (range_grew HRSd.out g'), s_cells (range_grew HRXd.out g')⟩
                    clear hst g6
                    go_upto_region 13 with (fail)
                    rw [← hwb, ← hb6]
                    clear hwb hb6 r1 p0 p1 p2 p3
                    cases hxy : eqSta s x with
                    | false =>
                      have HXY := Lib.hid hxy
                      have hns : decide (x = staS x.p (tal x.p.id d.an)) = false := decide_eq_false (fun e => (of_decide_eq_false hxy) ((HSS.out (by trivial)).trans e.symm))
                      have HB : Hid (validB d = false) := rv_s HX.out (by unfold rsB; rw [hns, Bool.and_false])
                      clear hns
                      clear hxy
                      refine wp_region_seq (by kernel_rfl) Grew.refl (fun _ _ _ => Grew.trans) (fun _ _ _ _ _ h => h) (by kernel_rfl) ?_
                      repeat (first
                        | (refine TakeAll.pure (v := ?_) (by rfl) ?_ ?_; rotate_left; (intro w' g'; obtain ⟨⟨p0, p1, p2, p3⟩, s0, s1, ⟨t0, t1, t2, t3, t4, t5, t6⟩, c0, c1, c2, c3, c4, c5, c6⟩ := hC w' g'; go_simp; first | done | with_reducible rfl); (simp only [Act.put, List.setIfInBounds_toArray, List.set_cons_zero, List.set_cons_succ]))
                        | (refine TakeAll.skip (by rfl) ?_; (simp only [Act.put, List.setIfInBounds_toArray, List.set_cons_zero, List.set_cons_succ])))
                      refine TakeAll.call (by rfl) 33 _ (fun _ => by go_simp; first | done | rfl) (fun w' g' => rpay_val HP.out HPW.out w') ?_
                      simp only [Act.put, List.setIfInBounds_toArray, List.set_cons_zero, List.set_cons_succ]
                      repeat (first
                        | (refine TakeAll.pure (v := ?_) (by rfl) ?_ ?_; rotate_left; (intro w' g'; obtain ⟨⟨p0, p1, p2, p3⟩, s0, s1, ⟨t0, t1, t2, t3, t4, t5, t6⟩, c0, c1, c2, c3, c4, c5, c6⟩ := hC w' g'; go_simp; first | done | with_reducible rfl); (simp only [Act.put, List.setIfInBounds_toArray, List.set_cons_zero, List.set_cons_succ]))
                        | (refine TakeAll.skip (by rfl) ?_; (simp only [Act.put, List.setIfInBounds_toArray, List.set_cons_zero, List.set_cons_succ])))
                      refine TakeAll.call (by rfl) 34 _ (fun _ => by go_simp; first | done | rfl) (fun w' g' => rfind_val (HH.out.grew ((G0.out.trans gBd).trans g')) HZ.out) ?_
                      simp only [Act.put, List.setIfInBounds_toArray, List.set_cons_zero, List.set_cons_succ]
                      repeat (first
                        | (refine TakeAll.pure (v := ?_) (by rfl) ?_ ?_; rotate_left; (intro w' g'; obtain ⟨⟨p0, p1, p2, p3⟩, s0, s1, ⟨t0, t1, t2, t3, t4, t5, t6⟩, c0, c1, c2, c3, c4, c5, c6⟩ := hC w' g'; go_simp; first | done | with_reducible rfl); (simp only [Act.put, List.setIfInBounds_toArray, List.set_cons_zero, List.set_cons_succ]))
                        | (refine TakeAll.skip (by rfl) ?_; (simp only [Act.put, List.setIfInBounds_toArray, List.set_cons_zero, List.set_cons_succ])))
                      refine TakeAll.pure (v := .bool true) (by rfl) (fun w' _ => exec_neq43 (a := s) (b := x) (by rw [HXY.out]; rfl) rfl rfl rfl w') ?_
                      simp only [Act.put, List.setIfInBounds_toArray, List.set_cons_zero, List.set_cons_succ]
                      repeat (first
                        | (refine TakeAll.pure (v := ?_) (by rfl) ?_ ?_; rotate_left; (intro w' g'; obtain ⟨⟨p0, p1, p2, p3⟩, s0, s1, ⟨t0, t1, t2, t3, t4, t5, t6⟩, c0, c1, c2, c3, c4, c5, c6⟩ := hC w' g'; go_simp; first | done | with_reducible rfl); (simp only [Act.put, List.setIfInBounds_toArray, List.set_cons_zero, List.set_cons_succ]))
                        | (refine TakeAll.skip (by rfl) ?_; (simp only [Act.put, List.setIfInBounds_toArray, List.set_cons_zero, List.set_cons_succ])))
                      refine TakeAll.nil ?_
                      intro w5 g5
                      have gE := gBd.trans g5
                      clear hC
                      go_wp2_with fail
                      go_ret
                      exact ⟨ret_bool HB.out.symm, G0.out.trans gE⟩
                    | true =>
                      have HXY := Lib.hid hxy
                      have HK2 : Hid (∀ (j : Nat) (s : Sta), j < k + 1 → d.ss[j]? = some s → rsB d j s = true) := fun j s' hj ha => by
                        rcases Nat.lt_succ_iff_lt_or_eq.1 hj with h | rfl
                        · exact HK.out j s' h ha
                        · rw [HX.out] at ha
                          injection ha with ha
                          subst ha
                          unfold rsB
                          rw [HP.out, HT.out, ← HSS.out (by trivial), decide_eq_true HZ.out, decide_eq_true (of_decide_eq_true hxy).symm]; rfl
                      clear hxy
                      refine wp_region_seq (by kernel_rfl) Grew.refl (fun _ _ _ => Grew.trans) (fun _ _ _ _ _ h => h) (by kernel_rfl) ?_
                      repeat (first
                        | (refine TakeAll.pure (v := ?_) (by rfl) ?_ ?_; rotate_left; (intro w' g'; obtain ⟨⟨p0, p1, p2, p3⟩, s0, s1, ⟨t0, t1, t2, t3, t4, t5, t6⟩, c0, c1, c2, c3, c4, c5, c6⟩ := hC w' g'; go_simp; first | done | with_reducible rfl); (simp only [Act.put, List.setIfInBounds_toArray, List.set_cons_zero, List.set_cons_succ]))
                        | (refine TakeAll.skip (by rfl) ?_; (simp only [Act.put, List.setIfInBounds_toArray, List.set_cons_zero, List.set_cons_succ])))
                      refine TakeAll.call (by rfl) 33 _ (fun _ => by go_simp; first | done | rfl) (fun w' g' => rpay_val HP.out HPW.out w') ?_
                      simp only [Act.put, List.setIfInBounds_toArray, List.set_cons_zero, List.set_cons_succ]
                      repeat (first
                        | (refine TakeAll.pure (v := ?_) (by rfl) ?_ ?_; rotate_left; (intro w' g'; obtain ⟨⟨p0, p1, p2, p3⟩, s0, s1, ⟨t0, t1, t2, t3, t4, t5, t6⟩, c0, c1, c2, c3, c4, c5, c6⟩ := hC w' g'; go_simp; first | done | with_reducible rfl); (simp only [Act.put, List.setIfInBounds_toArray, List.set_cons_zero, List.set_cons_succ]))
                        | (refine TakeAll.skip (by rfl) ?_; (simp only [Act.put, List.setIfInBounds_toArray, List.set_cons_zero, List.set_cons_succ])))
                      refine TakeAll.call (by rfl) 34 _ (fun _ => by go_simp; first | done | rfl) (fun w' g' => rfind_val (HH.out.grew ((G0.out.trans gBd).trans g')) HZ.out) ?_
                      simp only [Act.put, List.setIfInBounds_toArray, List.set_cons_zero, List.set_cons_succ]
                      repeat (first
                        | (refine TakeAll.pure (v := ?_) (by rfl) ?_ ?_; rotate_left; (intro w' g'; obtain ⟨⟨p0, p1, p2, p3⟩, s0, s1, ⟨t0, t1, t2, t3, t4, t5, t6⟩, c0, c1, c2, c3, c4, c5, c6⟩ := hC w' g'; go_simp; first | done | with_reducible rfl); (simp only [Act.put, List.setIfInBounds_toArray, List.set_cons_zero, List.set_cons_succ]))
                        | (refine TakeAll.skip (by rfl) ?_; (simp only [Act.put, List.setIfInBounds_toArray, List.set_cons_zero, List.set_cons_succ])))
                      refine TakeAll.pure (v := .bool false) (by rfl) (fun w' _ => exec_neq43 (a := s) (b := x) (by rw [HXY.out]; rfl) rfl rfl rfl w') ?_
                      simp only [Act.put, List.setIfInBounds_toArray, List.set_cons_zero, List.set_cons_succ]
                      repeat (first
                        | (refine TakeAll.pure (v := ?_) (by rfl) ?_ ?_; rotate_left; (intro w' g'; obtain ⟨⟨p0, p1, p2, p3⟩, s0, s1, ⟨t0, t1, t2, t3, t4, t5, t6⟩, c0, c1, c2, c3, c4, c5, c6⟩ := hC w' g'; go_simp; first | done | with_reducible rfl); (simp only [Act.put, List.setIfInBounds_toArray, List.set_cons_zero, List.set_cons_succ]))
                        | (refine TakeAll.skip (by rfl) ?_; (simp only [Act.put, List.setIfInBounds_toArray, List.set_cons_zero, List.set_cons_succ])))
                      refine TakeAll.nil ?_
                      intro w5 g5
                      have gE := gBd.trans g5
                      clear hC
                      go_wp2_with fail
                      go_roundw
                      case rel => exact ⟨k + 1, by omega, by go_num, HK2, gE⟩
                      case measure => simp [intOf]; omega
                · obtain ⟨z, hz0⟩ : ∃ z, findI d.ss x.p.id = z := ⟨_, rfl⟩
                  have HZ := Lib.hid hz0
                  have q3 : (z != (k : Int)) = true := by rw [bne_iff_ne, ← hz0]; exact hz
                  have HB : Hid (validB d = false) := rv_s HX.out (by unfold rsB; rw [decide_eq_false hz]; simp)
                  obtain ⟨tt, HT⟩ : ∃ t, Hid (rstB x.p d.an = t) := ⟨_, rfl⟩
                  clear hz hz0
                  go_upto_region 12 with (fail)
                  rw [← hwa, ← hb5]
                  clear hwa hb5 r0 c0 c1 c2 c3 c4 c5 c6
                  go_wp2_with fail
                  refine (rstand_val (p := x.p) (HH.out.2.grew (G0.out.trans gA)) (fun a ha => HALL.out a ha) (by omega) HT.out).mono ?_
                  rintro r w6 ⟨s, rfl, hst, g6⟩
                  rw [sv_eq]
                  obtain ⟨wb, hwb⟩ : ∃ y, y = w6.alloc (.cells #[.int .i64 s.p.id, .string s.p.acc, .int .i64 s.p.c, .int .i64 s.p.d, .int .i64 s.st, .int .i64 s.pd, .int .i64 s.bk] 43) := ⟨_, rfl⟩
                  have gb : Grew w6 wb := by rw [hwb]; exact (Grew.refl w6).alloc _
                  obtain ⟨b6, hb6⟩ : ∃ z, z = w6.heap.size := ⟨_, rfl⟩
                  have HRS : Hid (wb.rangeAt b6 0 (se s)) := by unfold Hid; rw [hwb, hb6]; exact range_new w6 (se s) 43
                  have gBd : Grew wd wb.drew := ((gA.trans g6).trans gb).drew
                  have HSS := Lib.hid hst
                  have HRPd := Lib.hid (range_grew (range_grew HRP.out (g6.trans gb)) (Grew.refl wb).drew)
                  have HRSd := Lib.hid (range_grew HRS.out (Grew.refl wb).drew)
                  have HRXd := Lib.hid (range_grew HRX.out (((ga.trans g6).trans gb).drew))
                  have HRd := Lib.hid (range_grew HR.out gBd)
                  have hC : ∀ w', Grew wb.drew w' → (w'.cell? ⟨b5, 0, none⟩ = some (.int .i64 x.p.id) ∧ w'.cell? ⟨b5, 1, none⟩ = some (.string x.p.acc) ∧ w'.cell? ⟨b5, 2, none⟩ = some (.int .i64 x.p.c) ∧ w'.cell? ⟨b5, 3, none⟩ = some (.int .i64 x.p.d)) ∧ w'.cell? ⟨bd, 0, none⟩ = some (.slice (some ⟨b, o, none⟩) n c) ∧ w'.cell? ⟨bd, 1, none⟩ = some (.slice B m e) ∧ (w'.cell? ⟨b6, 0, none⟩ = some (.int .i64 s.p.id) ∧ w'.cell? ⟨b6, 1, none⟩ = some (.string s.p.acc) ∧ w'.cell? ⟨b6, 2, none⟩ = some (.int .i64 s.p.c) ∧ w'.cell? ⟨b6, 3, none⟩ = some (.int .i64 s.p.d) ∧ w'.cell? ⟨b6, 4, none⟩ = some (.int .i64 s.st) ∧ w'.cell? ⟨b6, 5, none⟩ = some (.int .i64 s.pd) ∧ w'.cell? ⟨b6, 6, none⟩ = some (.int .i64 s.bk)) ∧ w'.cell? ⟨b, o + k * 7, none⟩ = some (.int .i64 x.p.id) ∧ w'.cell? ⟨b, o + k * 7 + 1, none⟩ = some (.string x.p.acc) ∧ w'.cell? ⟨b, o + k * 7 + 2, none⟩ = some (.int .i64 x.p.c) ∧ w'.cell? ⟨b, o + k * 7 + 3, none⟩ = some (.int .i64 x.p.d) ∧ w'.cell? ⟨b, o + k * 7 + 4, none⟩ = some (.int .i64 x.st) ∧ w'.cell? ⟨b, o + k * 7 + 5, none⟩ = some (.int .i64 x.pd) ∧ w'.cell? ⟨b, o + k * 7 + 6, none⟩ = some (.int .i64 x.bk) := fun w' g' => by
                    have s0 := range_grew HRd.out g' 0 _ rfl
                    have s1 := range_grew HRd.out g' 1 _ rfl
                    simp only [Nat.zero_add] at s0 s1
                    exact ⟨p_cells0 (range_grew HRPd.out g'), s0, s1, s_cells0 (range_grew HRSd.out g'), s_cells (range_grew HRXd.out g')⟩
                  clear hst g6
                  go_upto_region 13 with (fail)
                  rw [← hwb, ← hb6]
                  clear hwb hb6 r1 p0 p1 p2 p3
                  refine wp_region_seq (by kernel_rfl) Grew.refl (fun _ _ _ => Grew.trans) (fun _ _ _ _ _ h => h) (by kernel_rfl) ?_
                  repeat (first
                    | (refine TakeAll.pure (v := ?_) (by rfl) ?_ ?_; rotate_left; (intro w' g'; obtain ⟨⟨p0, p1, p2, p3⟩, s0, s1, ⟨t0, t1, t2, t3, t4, t5, t6⟩, c0, c1, c2, c3, c4, c5, c6⟩ := hC w' g'; go_simp; first | done | with_reducible rfl); (simp only [Act.put, List.setIfInBounds_toArray, List.set_cons_zero, List.set_cons_succ]))
                    | (refine TakeAll.skip (by rfl) ?_; (simp only [Act.put, List.setIfInBounds_toArray, List.set_cons_zero, List.set_cons_succ])))
                  refine TakeAll.call (by rfl) 33 _ (fun _ => by go_simp; first | done | rfl) (fun w' g' => rpay_val HP.out HPW.out w') ?_
                  simp only [Act.put, List.setIfInBounds_toArray, List.set_cons_zero, List.set_cons_succ]
                  repeat (first
                    | (refine TakeAll.pure (v := ?_) (by rfl) ?_ ?_; rotate_left; (intro w' g'; obtain ⟨⟨p0, p1, p2, p3⟩, s0, s1, ⟨t0, t1, t2, t3, t4, t5, t6⟩, c0, c1, c2, c3, c4, c5, c6⟩ := hC w' g'; go_simp; first | done | with_reducible rfl); (simp only [Act.put, List.setIfInBounds_toArray, List.set_cons_zero, List.set_cons_succ]))
                    | (refine TakeAll.skip (by rfl) ?_; (simp only [Act.put, List.setIfInBounds_toArray, List.set_cons_zero, List.set_cons_succ])))
                  refine TakeAll.call (by rfl) 34 _ (fun _ => by go_simp; first | done | rfl) (fun w' g' => rfind_val (HH.out.grew ((G0.out.trans gBd).trans g')) HZ.out) ?_
                  simp only [Act.put, List.setIfInBounds_toArray, List.set_cons_zero, List.set_cons_succ]
                  repeat (first
                    | (refine TakeAll.pure (v := ?_) (by rfl) ?_ ?_; rotate_left; (intro w' g'; obtain ⟨⟨p0, p1, p2, p3⟩, s0, s1, ⟨t0, t1, t2, t3, t4, t5, t6⟩, c0, c1, c2, c3, c4, c5, c6⟩ := hC w' g'; go_simp; first | done | with_reducible rfl); (simp only [Act.put, List.setIfInBounds_toArray, List.set_cons_zero, List.set_cons_succ]))
                    | (refine TakeAll.skip (by rfl) ?_; (simp only [Act.put, List.setIfInBounds_toArray, List.set_cons_zero, List.set_cons_succ])))
                  refine TakeAll.nil ?_
                  intro w5 g5
                  have gE := gBd.trans g5
                  clear hC
                  go_wp2_with fail
                  go_ret
                  exact ⟨ret_bool HB.out.symm, G0.out.trans gE⟩
            · have HB : Hid (validB d = true) := rv_ok (by rw [HL.out]; exact hn) (by rw [HLA.out]; exact hm) HALLR.out (fun j s hs => HK.out j s (by have := (List.getElem?_eq_some_iff.1 hs).1; have := HL.out; omega) hs)
              go_wp2_with fail
              go_ret
              exact ⟨ret_bool HB.out.symm, G0.out.trans hg⟩
    · have q2 : decide (2000 < m) = true := decide_eq_true (by omega)
      have q2' : decide ((2000 : Int) < (m : Int)) = true := decide_eq_true (by omega)
      have HB : Hid (validB d = false) := by unfold Hid validB; rw [HLA.out, decide_eq_false hm]; simp
      go_enter Try.func22, Try.ntmps22
      go_upto_region 1 with (fail)
      rw [← hwd, ← hbd]
      clear hwd hbd
      go_wp2_with fail
      go_ret
      exact ⟨ret_bool HB.out.symm, G0.out⟩
  · have q1 : decide (400 < n) = true := decide_eq_true (by omega)
    have q1' : decide ((400 : Int) < (n : Int)) = true := decide_eq_true (by omega)
    have HB : Hid (validB d = false) := by unfold Hid validB; rw [HL.out, decide_eq_false hn]; simp
    go_enter Try.func22, Try.ntmps22
    go_upto_region 1 with (fail)
    rw [← hwd, ← hbd]
    clear hwd hbd
    go_wp2_with fail
    go_ret
    exact ⟨ret_bool HB.out.symm, G0.out⟩
end Go.Proofs.Ytaocjobbfcfleaa
