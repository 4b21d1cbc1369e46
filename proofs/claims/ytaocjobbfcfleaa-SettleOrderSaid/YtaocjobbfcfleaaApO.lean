/-
  settle.Apply once more: what it returns lies in memory of its own.
-/
import Derived.Test.YtaocjobbfcfleaaApply
namespace Go.Proofs.Ytaocjobbfcfleaa
open Go.RowKit Go.Proofs WageMem WageOrd WageRec WageMap WageReg WageSet
/-- An address in memory that is newer than a world. -/
def Fresh (w : World) (A : Option Addr) : Prop := ∀ x, A = some x → w.heap.size ≤ x.block
theorem fresh_none {w : World} : Fresh w none := fun _ h => by cases h
theorem own_fresh {w w0 : World} {base : Nat} {e : TypeId} {size : Nat} {A : Option Addr} {n c k : Nat} {xs : List Value} (h : w.ownsRow base e size (.slice A n c) k xs) (hb : w0.heap.size ≤ base) : Fresh w0 A := fun x hx => by
  subst hx
  rcases h.2 with ⟨h1, _⟩ | ⟨g, cap, cur, h1, h2, _⟩
  · cases h1
  · injection h1 with h1 _ _
    injection h1 with h1
    subst h1
    exact Nat.le_trans hb h2
/-- A contract's end: a desk in memory of its own, and an error's number. -/
def RetDF (e0 : Int) (d0 : Desk) (w : World) (r : Ending) (w' : World) : Prop :=
  ∃ A n c B m e, r = .returned (.tuple #[.agg #[.slice A n c, .slice B m e], .int .i64 e0]) ∧ DeskIs w' A n c B m e d0 ∧ Grew w w' ∧ Fresh w A ∧ Fresh w B
set_option maxRecDepth 100000 in
set_option maxHeartbeats 16000000 in
theorem applyF_any (A B : Option Addr) (n c m e : Nat) (d : Desk) (a : Ans) (w : World) (h : DeskIs w A n c B m e d) : Calls Try.prog 13 #[.agg #[.slice A n c, .slice B m e], av a] w (RetDF (applyE d a) (applyD d a) w) := by
  show Calls Try.prog 13 #[.agg #[.slice A n c, .slice B m e], .agg #[.int .i64 a.q, .int .i64 a.id, .int .i64 a.k, .int .i64 a.c, .int .i64 a.d]] w _
  have HH := Lib.hid h
  have HL := Lib.hid h.1.1.1
  have HLA := Lib.hid h.2.1
  obtain ⟨bd, hbd⟩ : ∃ b, b = w.heap.size := ⟨_, rfl⟩
  obtain ⟨ba, hba⟩ : ∃ b, b = w.heap.size + 1 := ⟨_, rfl⟩
  obtain ⟨b4, hb4'⟩ : ∃ b, b = w.heap.size + 1 + 1 := ⟨_, rfl⟩
  obtain ⟨w1, hw1⟩ : ∃ x, x = w.alloc (.cells #[.slice A n c, .slice B m e] 25) := ⟨_, rfl⟩
  obtain ⟨w2, hw2⟩ : ∃ x, x = w1.alloc (.cells #[.int .i64 a.q, .int .i64 a.id, .int .i64 a.k, .int .i64 a.c, .int .i64 a.d] 29) := ⟨_, rfl⟩
  obtain ⟨w3, hw3⟩ : ∃ x, x = w2.alloc (.cells #[.slice none 0 0, .slice none 0 0] 25) := ⟨_, rfl⟩
  have g1 : Grew w w1 := by rw [hw1]; exact (Grew.refl w).alloc _
  have g12 : Grew w1 w2 := by rw [hw2]; exact (Grew.refl w1).alloc _
  have g23 : Grew w2 w3 := by rw [hw3]; exact (Grew.refl w2).alloc _
  have sz1 : w1.heap.size = w.heap.size + 1 := by rw [hw1]; simp
  have sz2 : w2.heap.size = w.heap.size + 1 + 1 := by rw [hw2]; simp [sz1]
  have HRD3 : Hid (w3.rangeAt bd 0 [.slice A n c, .slice B m e]) := by rw [hbd]; exact range_grew (by rw [hw1]; exact range_new w _ 25) (g12.trans g23)
  have HRA3 : Hid (w3.rangeAt ba 0 (ae a)) := by rw [hba, ← sz1]; exact range_grew (by rw [hw2]; exact range_new w1 (ae a) 29) g23
  have HB3 : Hid (w3.heap[b4]? = some (.cells #[.slice none 0 0, .slice none 0 0] 25)) := by unfold Hid; rw [hb4', ← sz2, hw3]; exact heap_alloc_new w2 _
  have G3 := Lib.hid ((g1.trans g12).trans g23)
  have hb4 : w.heap.size ≤ b4 := by omega
  have hbdb : bd < b4 ∧ ba < b4 := by omega
  clear h g1 g12 g23 sz1 sz2
  cases hv : validB d with
  | false =>
    have HV := Lib.hid hv
    have HE : Hid (applyE d a = 1) := app_bad (by rw [hv]; rfl)
    have HD := Lib.hid (appD_no HE.out (by decide))
    clear hv
    go_enter Try.func13, Try.ntmps13
    go_wp2_with fail
    rw [← hw1]
    rw [← hw2]
    rw [← hw3, ← hb4', ← hba, ← hbd]
    clear hw1 hw2 hw3 hbd hba hb4'
    refine (valid_val (HH.out.grew G3.out) HV.out).mono ?_
    rintro r w5 ⟨rfl, g5⟩
    have HB5 := Lib.hid (g5.block HB3.out)
    have y0 := row_at (l := [.slice none 0 0, .slice none 0 0]) HB5.out 0 _ rfl
    have y1 := row_at (l := [.slice none 0 0, .slice none 0 0]) HB5.out 1 _ rfl
    have f0 := row_free HB5.out 0
    have f1 := row_free HB5.out 1
    simp only [Nat.zero_add] at y0 y1
    go_wp2_with fail
    refine bodyPost_ret (results_dsk rfl _ _ b4 _ rfl (set2 HB5.out _ _) rfl) rfl ?_
    exact ⟨none, 0, 0, none, 0, 0, ret_dsk HE.out.symm, by rw [HD.out]; exact desk_nil _, ((G3.out.trans g5).set hb4 _).set hb4 _, fresh_none, fresh_none⟩
  | true =>
    have HV := Lib.hid hv
    cases hga : ansB a with
    | false =>
      have HGA := Lib.hid hga
      have HE : Hid (applyE d a = 1) := app_bad (by rw [hv, hga]; rfl)
      have HD := Lib.hid (appD_no HE.out (by decide))
      clear hv hga
      go_enter Try.func13, Try.ntmps13
      go_wp2_with fail
      rw [← hw1]
      rw [← hw2]
      rw [← hw3, ← hb4', ← hba, ← hbd]
      clear hw1 hw2 hw3 hbd hba hb4'
      refine (valid_val (HH.out.grew G3.out) HV.out).mono ?_
      rintro r w4 ⟨rfl, g4⟩
      obtain ⟨c0, c1, c2, c3, c4⟩ := a_cells0 (range_grew HRA3.out g4)
      go_wp2_with fail
      refine (ans_val HGA.out _).mono ?_
      rintro r w5 ⟨rfl, g5⟩
      have HB5 := Lib.hid ((g4.trans g5).block HB3.out)
      have y0 := row_at (l := [.slice none 0 0, .slice none 0 0]) HB5.out 0 _ rfl
      have y1 := row_at (l := [.slice none 0 0, .slice none 0 0]) HB5.out 1 _ rfl
      have f0 := row_free HB5.out 0
      have f1 := row_free HB5.out 1
      simp only [Nat.zero_add] at y0 y1
      go_wp2_with fail
      refine bodyPost_ret (results_dsk rfl _ _ b4 _ rfl (set2 HB5.out _ _) rfl) rfl ?_
      exact ⟨none, 0, 0, none, 0, 0, ret_dsk HE.out.symm, by rw [HD.out]; exact desk_nil _, ((G3.out.trans (g4.trans g5)).set hb4 _).set hb4 _, fresh_none, fresh_none⟩
    | true =>
      have HGA := Lib.hid hga
      have HVP : Hid ((validB d && ansB a) = true) := by unfold Hid; rw [hv, hga]; rfl
      have HSQ := Lib.hid (sortQ_of (stand_parts (valid_parts hv).2.2.1).2.1)
      clear hv hga
      have hm2' : m ≤ 2000 := by rw [← HLA.out]; exact (valid_parts HV.out).2.1
      have hn4 : n ≤ 400 := by rw [← HL.out]; exact (valid_parts HV.out).1
      go_enter Try.func13, Try.ntmps13
      go_wp2_with fail
      rw [← hw1]
      rw [← hw2]
      rw [← hw3, ← hb4', ← hba, ← hbd]
      clear hw1 hw2 hw3 hbd hba hb4'
      refine (valid_val (HH.out.grew G3.out) HV.out).mono ?_
      rintro r w4 ⟨rfl, g4⟩
      obtain ⟨c0, c1, c2, c3, c4⟩ := a_cells0 (range_grew HRA3.out g4)
      go_wp2_with fail
      clear c0 c1 c2 c3 c4
      refine (ans_val HGA.out _).mono ?_
      rintro r w5 ⟨rfl, g5⟩
      have gg := g4.trans g5
      obtain ⟨c0, c1, c2, c3, c4⟩ := a_cells0 (range_grew HRA3.out gg)
      have hr1 := range_grew HRD3.out gg 1 _ rfl
      simp only [Nat.zero_add] at hr1
      obtain ⟨i, hi⟩ : ∃ i, posA a.q d.an = i := ⟨_, rfl⟩
      have HPOS := Lib.hid hi
      have hiL' : i ≤ m := by rw [← hi, ← HLA.out]; exact pos_le _ _
      obtain ⟨fd, hfd⟩ : ∃ p, foundA a.q d.an = p := ⟨_, rfl⟩
      go_wp2_with fail
      clear c0 c1 c2 c3 c4 hr1
      refine (search_any B m e d.an a.q _ (HH.out.2.grew (G3.out.trans gg)) HSQ.out (by omega)).mono ?_
      rintro r w6 ⟨rfl, g6⟩
      have gg6 := gg.trans g6
      have HB7' := Lib.hid (gg6.block HB3.out)
      have HRD7' : Hid (w6.rangeAt bd 0 [.slice A n c, .slice B m e]) := range_grew HRD3.out gg6
      have HRA7' : Hid (w6.rangeAt ba 0 (ae a)) := range_grew HRA3.out gg6
      have G7' := Lib.hid (G3.out.trans gg6)
      rw [hi, hfd]
      have HFN0 := Lib.hid hfd
      clear hi hfd HB3 HRD3 HRA3 G3 g4 g5 g6 gg gg6
      cases fd with
      | true =>
        have HFN : Hid (foundA a.q d.an = true) := HFN0.out
        obtain ⟨y, hy, hyq⟩ := found_get HFN.out
        rw [HPOS.out] at hy
        have HY := Lib.hid hy
        have hlt : i < m := by rw [← HLA.out]; exact (List.getElem?_eq_some_iff.1 hy).1
        obtain ⟨b, o, y', rfl, hy2, hry⟩ := (HH.out.2.grew G7'.out).at_ ae_ok hlt
        obtain rfl : y = y' := by rw [hy] at hy2; injection hy2
        have HRY := Lib.hid hry
        have i0 : (0 : Int) ≤ (i : Int) := by omega
        have i1 : (i : Int) < (m : Int) := by omega
        clear hy hyq hy2 hry
        have hC : ∀ w', Grew w6.drew w' → w'.cell? ⟨bd, 1, none⟩ = some (.slice (some ⟨b, o, none⟩) m e) ∧ (w'.cell? ⟨ba, 0, none⟩ = some (.int .i64 a.q) ∧ w'.cell? ⟨ba, 1, none⟩ = some (.int .i64 a.id) ∧ w'.cell? ⟨ba, 2, none⟩ = some (.int .i64 a.k) ∧ w'.cell? ⟨ba, 3, none⟩ = some (.int .i64 a.c) ∧ w'.cell? ⟨ba, 4, none⟩ = some (.int .i64 a.d)) ∧ (w'.cell? ⟨b, o + i * 5, none⟩ = some (.int .i64 y.q) ∧ w'.cell? ⟨b, o + i * 5 + 1, none⟩ = some (.int .i64 y.id) ∧ w'.cell? ⟨b, o + i * 5 + 2, none⟩ = some (.int .i64 y.k) ∧ w'.cell? ⟨b, o + i * 5 + 3, none⟩ = some (.int .i64 y.c) ∧ w'.cell? ⟨b, o + i * 5 + 4, none⟩ = some (.int .i64 y.d)) := fun w' g' => by
          have gg : Grew w6 w' := (Grew.refl w6).drew.trans g'
          have h1 := range_grew HRD7'.out gg 1 _ rfl
          simp only [Nat.zero_add] at h1
          exact ⟨h1, a_cells0 (range_grew HRA7'.out gg), a_cells (range_grew HRY.out gg)⟩
        cases hxy : eqAns y a with
        | false =>
          have HE : Hid (applyE d a = 5) := app_two HVP.out HFN.out (by rw [HPOS.out, HY.out]; intro h; injection h with h; exact (of_decide_eq_false hxy) h)
          have HD := Lib.hid (appD_no HE.out (by decide))
          go_wp2_with fail
          refine wp_region_seq (by kernel_rfl) Grew.refl (fun _ _ _ => Grew.trans) (fun _ _ _ _ _ h => h) (by kernel_rfl) ?_
          repeat (first
            | (refine TakeAll.pure (v := ?_) (by rfl) ?_ ?_; rotate_left; (intro w' g'; obtain ⟨e1, ⟨c0, c1, c2, c3, c4⟩, d0, d1, d2, d3, d4⟩ := hC w' g'; go_simp; first | done | with_reducible rfl); (simp only [Act.put, List.setIfInBounds_toArray, List.set_cons_zero, List.set_cons_succ]))
            | (refine TakeAll.skip (by rfl) ?_; (simp only [Act.put, List.setIfInBounds_toArray, List.set_cons_zero, List.set_cons_succ])))
          refine TakeAll.pure (v := .bool true) (by rfl) (fun w' _ => exec_neq29 (a := y) (b := a) (by rw [hxy]; rfl) rfl rfl rfl w') ?_
          simp only [Act.put, List.setIfInBounds_toArray, List.set_cons_zero, List.set_cons_succ]
          refine TakeAll.nil ?_
          intro w7 g7
          have gl7 : Grew w6 w7 := (Grew.refl w6).drew.trans g7
          have HB7 := Lib.hid (gl7.block HB7'.out)
          have G7 := G7'.out.trans gl7
          have y0 := row_at (l := [.slice none 0 0, .slice none 0 0]) HB7.out 0 _ rfl
          have y1 := row_at (l := [.slice none 0 0, .slice none 0 0]) HB7.out 1 _ rfl
          have f0 := row_free HB7.out 0
          have f1 := row_free HB7.out 1
          simp only [Nat.zero_add] at y0 y1
          clear hC g7
          go_wp2_with fail
          refine bodyPost_ret (results_dsk rfl _ _ b4 _ rfl (set2 HB7.out _ _) rfl) rfl ?_
          exact ⟨none, 0, 0, none, 0, 0, ret_dsk HE.out.symm, by rw [HD.out]; exact desk_nil _, (G7.set hb4 _).set hb4 _, fresh_none, fresh_none⟩
        | true =>
          have HE : Hid (applyE d a = 0) := app_same HVP.out HFN.out (by rw [HPOS.out, HY.out, of_decide_eq_true hxy])
          have HD := Lib.hid (appD_same HE.out HFN.out)
          go_wp2_with fail
          refine wp_region_seq (by kernel_rfl) Grew.refl (fun _ _ _ => Grew.trans) (fun _ _ _ _ _ h => h) (by kernel_rfl) ?_
          repeat (first
            | (refine TakeAll.pure (v := ?_) (by rfl) ?_ ?_; rotate_left; (intro w' g'; obtain ⟨e1, ⟨c0, c1, c2, c3, c4⟩, d0, d1, d2, d3, d4⟩ := hC w' g'; go_simp; first | done | with_reducible rfl); (simp only [Act.put, List.setIfInBounds_toArray, List.set_cons_zero, List.set_cons_succ]))
            | (refine TakeAll.skip (by rfl) ?_; (simp only [Act.put, List.setIfInBounds_toArray, List.set_cons_zero, List.set_cons_succ])))
          refine TakeAll.pure (v := .bool false) (by rfl) (fun w' _ => exec_neq29 (a := y) (b := a) (by rw [hxy]; rfl) rfl rfl rfl w') ?_
          simp only [Act.put, List.setIfInBounds_toArray, List.set_cons_zero, List.set_cons_succ]
          refine TakeAll.nil ?_
          intro wl g7
          have gl7 : Grew w6 wl := (Grew.refl w6).drew.trans g7
          have HB7 := Lib.hid (gl7.block HB7'.out)
          have HRD7 : Hid (wl.rangeAt bd 0 [.slice A n c, .slice (some ⟨b, o, none⟩) m e]) := range_grew HRD7'.out gl7
          have G7 := Lib.hid (G7'.out.trans gl7)
          have hbl : b4 < wl.heap.size := (Array.getElem?_eq_some_iff.1 HB7.out).1
          clear hC g7 gl7 HB7' HRD7' HRA7' G7' HRY
          go_wp2_with fail
          have hC : ∀ w', Below b4 wl.drew w' → w'.cell? ⟨bd, 0, none⟩ = some (.slice A n c) ∧ w'.cell? ⟨bd, 1, none⟩ = some (.slice (some ⟨b, o, none⟩) m e) := fun w' g' => by
            have h0 := HRD7.out 0 _ rfl
            have h1 := HRD7.out 1 _ rfl
            simp only [Nat.zero_add] at h0 h1
            exact ⟨(g'.cell (show bd < b4 by omega)).trans h0, (g'.cell (show bd < b4 by omega)).trans h1⟩
          refine wp_region_H (by kernel_rfl) (fun w' => Below b4 wl.drew w') ?_
          refine wpAnyH_takes (fun _ _ _ _ _ h => h) (Below.refl _ _) [0, 1, 3, 4] (fuel' := 5) (by kernel_rfl) (by kernel_rfl) (by simp only [pickOps, List.getElem?_toArray, List.getElem?_cons_zero, List.getElem?_cons_succ]; rfl) ?_
          repeat (first
            | (refine TakeP.pure (v := ?_) (by rfl) ?_ ?_; rotate_left; (intro w' g'; obtain ⟨e0, e1⟩ := hC w' g'; go_simp; first | done | with_reducible rfl); (simp only [Act.put, List.setIfInBounds_toArray, List.set_cons_zero, List.set_cons_succ])))
          refine TakeP.nil ?_
          refine wpAnyH_step (i := 2) (by kernel_rfl) (fuel' := 4) (by kernel_rfl) (by simp only [pickOps, List.getElem?_toArray, List.getElem?_cons_zero, List.getElem?_cons_succ]; rfl) (by rfl) ?_
          intro K hK
          refine wp_call 31 #[.slice A n c] (by go_simp; first | done | rfl) ?_
          refine (cloneS_any A n c d.ss _ (HH.out.1.1.grew (G7.out.drew)) (by omega)).mono ?_
          rintro r w7 ⟨A8, n8, c8, rfl, hl8, own7, g7⟩
          have S7 : Grew wl.drew w7 := g7
          refine ⟨_, rfl, hK _ _ (Below.mono S7 (Nat.le_of_lt hbl)) ?_⟩
          clear hK K
          simp only [Act.put, List.setIfInBounds_toArray, List.set_cons_zero, List.set_cons_succ]
          refine wpAnyH_step (i := 5) (by kernel_rfl) (fuel' := 3) (by kernel_rfl) (by simp only [pickOps, List.getElem?_toArray, List.getElem?_cons_zero, List.getElem?_cons_succ]; rfl) (by rfl) ?_
          intro K hK
          refine wp_call 32 #[.slice (some ⟨b, o, none⟩) m e] (by go_simp; first | done | rfl) ?_
          refine (cloneA_any (some ⟨b, o, none⟩) m e d.an _ (HH.out.2.grew (G7.out.drew.trans S7)) (by omega)).mono ?_
          rintro r w8 ⟨B8, m8, e8, rfl, hm8, own8, g8⟩
          have S8 : Grew wl.drew w8 := S7.trans g8
          refine ⟨_, rfl, hK _ _ (Below.mono S8 (Nat.le_of_lt hbl)) ?_⟩
          clear hK K
          simp only [Act.put, List.setIfInBounds_toArray, List.set_cons_zero, List.set_cons_succ]
          have gl8 : Grew wl w8 := (Grew.refl wl).drew.trans S8
          have OS8 : Hid (w8.ownsRow wl.heap.size 43 7 (.slice A8 n8 c8) n8 (d.ss.flatMap se)) := own_grew own7 g8
          have OA8 : Hid (w8.ownsRow wl.heap.size 29 5 (.slice B8 m8 e8) m8 (d.an.flatMap ae)) := own_base own8 S7.le
          clear own7 own8 g7 g8 S7
          refine wpAnyH_takes (fun _ _ _ _ _ h => h) (Below.mono S8 (Nat.le_of_lt hbl)) [6] (fuel' := 2) (by kernel_rfl) (by kernel_rfl) (by simp only [pickOps, List.getElem?_toArray, List.getElem?_cons_zero, List.getElem?_cons_succ]; rfl) ?_
          repeat (first
            | (refine TakeP.pure (v := ?_) (by rfl) ?_ ?_; rotate_left; (intro w' g'; go_simp; first | done | with_reducible rfl); (simp only [Act.put, List.setIfInBounds_toArray, List.set_cons_zero, List.set_cons_succ])))
          refine TakeP.nil ?_
          have HB8 := Lib.hid (gl8.block HB7.out)
          refine wpAnyH_step (i := 7) (by kernel_rfl) (fuel' := 1) (by kernel_rfl) (by simp only [pickOps, List.getElem?_toArray, List.getElem?_cons_zero, List.getElem?_cons_succ]; rfl) (by rfl) ?_
          intro K hK
          refine wp_store_row 25 (.tmp 4) (.tmp 43) rfl b4 #[.slice A8 n8 c8, .slice B8 m8 e8] rfl rfl 25 _ HB8.out size25 rfl (by simp [Value.oneCell']) ?_
          have hbw : wl.heap.size ≤ w8.heap.size := S8.le
          have S9 : Below b4 wl.drew (w8.setRow b4 #[.slice A8 n8 c8, .slice B8 m8 e8]) := below_row (Below.mono S8 (Nat.le_of_lt hbl)) (Nat.le_refl _) _
          refine hK _ _ S9 ?_
          clear hK K
          have HB9 := Lib.hid (setRow_heap w8 b4 _ #[.slice A8 n8 c8, .slice B8 m8 e8] 25 (0, 0) HB8.out)
          have OS9 := Lib.hid (own_row OS8.out hbl #[.slice A8 n8 c8, .slice B8 m8 e8])
          have OA9 := Lib.hid (own_row OA8.out hbl #[.slice A8 n8 c8, .slice B8 m8 e8])
          have G9 : Grew w (w8.setRow b4 #[.slice A8 n8 c8, .slice B8 m8 e8]) := grew_setRow (G7.out.trans gl8) hb4 _
          refine wpAnyH_takes (fun _ _ _ _ _ h => h) S9 [8] (fuel' := 0) (by kernel_rfl) (by kernel_rfl) (by simp only [pickOps, List.getElem?_toArray, List.getElem?_cons_zero, List.getElem?_cons_succ]; rfl) ?_
          repeat (first
            | (refine TakeP.pure (v := ?_) (by rfl) ?_ ?_; rotate_left; (intro w' g'; go_simp; first | done | with_reducible rfl); (simp only [Act.put, List.setIfInBounds_toArray, List.set_cons_zero, List.set_cons_succ])))
          refine TakeP.nil ?_
          refine wpAnyH_done (by kernel_rfl) ?_ _
          clear HB8 S8 S9 OS8 OA8 hC
          go_wp2_with fail
          refine bodyPost_ret (results_dsk rfl _ _ b4 _ rfl HB9.out rfl) rfl ?_
          refine ⟨A8, n8, c8, B8, m8, e8, ret_dsk HE.out.symm, ?_, G9, own_fresh OS9.out (by omega), own_fresh OA9.out (by omega)⟩
          rw [HD.out]
          exact ⟨⟨Recs.own hl8 OS9.out, HH.out.1.2⟩, Recs.own hm8 OA9.out⟩
      | false =>
        have HFN : Hid (foundA a.q d.an = false) := HFN0.out
        have hr1 := HRD7'.out 1 _ rfl
        simp only [Nat.zero_add] at hr1
        by_cases hm2 : 2000 ≤ m
        · have q1 : decide (2000 ≤ (m : Int)) = true := decide_eq_true (by omega)
          have HE : Hid (applyE d a = 2) := app_lim HVP.out HFN.out (by rw [HLA.out]; exact hm2)
          have HD := Lib.hid (appD_no HE.out (by decide))
          have y0 := row_at (l := [.slice none 0 0, .slice none 0 0]) HB7'.out 0 _ rfl
          have y1 := row_at (l := [.slice none 0 0, .slice none 0 0]) HB7'.out 1 _ rfl
          have f0 := row_free HB7'.out 0
          have f1 := row_free HB7'.out 1
          simp only [Nat.zero_add] at y0 y1
          go_wp2_with fail
          refine bodyPost_ret (results_dsk rfl _ _ b4 _ rfl (set2 HB7'.out _ _) rfl) rfl ?_
          exact ⟨none, 0, 0, none, 0, 0, ret_dsk HE.out.symm, by rw [HD.out]; exact desk_nil _, (G7'.out.set hb4 _).set hb4 _, fresh_none, fresh_none⟩
        · have q1 : decide (2000 ≤ (m : Int)) = false := decide_eq_false (by omega)
          obtain ⟨wl, rfl⟩ : ∃ wl : World, wl = w6 := ⟨_, rfl⟩
          have HB7 := HB7'
          have HRD7 := HRD7'
          have HRA7 := HRA7'
          have G7 := G7'
          have hbl : b4 < wl.heap.size := (Array.getElem?_eq_some_iff.1 HB7.out).1
          clear HB7' HRD7' HRA7' G7'
          go_wp2_with fail
          clear hr1
          have hC : ∀ w', Grew wl.drew w' → w'.cell? ⟨bd, 1, none⟩ = some (.slice B m e) ∧ (w'.cell? ⟨ba, 0, none⟩ = some (.int .i64 a.q) ∧ w'.cell? ⟨ba, 1, none⟩ = some (.int .i64 a.id) ∧ w'.cell? ⟨ba, 2, none⟩ = some (.int .i64 a.k) ∧ w'.cell? ⟨ba, 3, none⟩ = some (.int .i64 a.c) ∧ w'.cell? ⟨ba, 4, none⟩ = some (.int .i64 a.d)) := fun w' g' => by
            have gg : Grew wl w' := (Grew.refl wl).drew.trans g'
            have h1 := range_grew HRD7.out gg 1 _ rfl
            simp only [Nat.zero_add] at h1
            exact ⟨h1, a_cells0 (range_grew HRA7.out gg)⟩
          refine wp_region_H (by kernel_rfl) (fun w' => Grew wl.drew w') ?_
          refine wpAnyH_takes (fun _ _ _ _ _ h => h) (Grew.refl _) [0, 1, 3, 4] (fuel' := 4) (by kernel_rfl) (by kernel_rfl) (by simp only [pickOps, List.getElem?_toArray, List.getElem?_cons_zero, List.getElem?_cons_succ]; rfl) ?_
          repeat (first
            | (refine TakeP.pure (v := ?_) (by rfl) ?_ ?_; rotate_left; (intro w' g'; obtain ⟨e1, c0, c1, c2, c3, c4⟩ := hC w' g'; go_simp; first | done | with_reducible rfl); (simp only [Act.put, List.setIfInBounds_toArray, List.set_cons_zero, List.set_cons_succ])))
          refine TakeP.nil ?_
          refine wpAnyH_two (i := 2) (j := 5) (by kernel_rfl) (fuel' := 3) (by kernel_rfl) (by simp only [pickOps, List.getElem?_toArray, List.getElem?_cons_zero, List.getElem?_cons_succ]; rfl) rfl (by simp only [pickOps, List.getElem?_toArray, List.getElem?_cons_zero, List.getElem?_cons_succ]; rfl) rfl ?_ ?_
          · intro K hK
            refine wp_call 32 #[.slice B m e] (by go_simp; first | done | rfl) ?_
            refine (cloneA_any B m e d.an _ (HH.out.2.grew (G7.out.drew)) (by omega)).mono ?_
            rintro r w7 ⟨B8, m8, e8, rfl, hm8, own7, g7⟩
            obtain rfl : m = m8 := by rw [← hm8, HLA.out]
            have S7 : Grew wl.drew w7 := g7
            refine ⟨_, rfl, hK _ _ S7 ?_⟩
            clear hK K
            simp only [Act.put, List.setIfInBounds_toArray, List.set_cons_zero, List.set_cons_succ]
            refine wpAnyH_step (i := 5) (by kernel_rfl) (fuel' := 2) (by kernel_rfl) (by simp only [pickOps, List.getElem?_toArray, List.getElem?_cons_zero, List.getElem?_cons_succ]; rfl) (by rfl) ?_
            intro K hK
            go_simp
            have S8' := S7.alloc (.cells #[.int .i64 a.q, .int .i64 a.id, .int .i64 a.k, .int .i64 a.c, .int .i64 a.d] 29)
            refine hK _ _ S8' ?_
            clear hK K
            have HV8' := Lib.hid (heap_alloc_new w7 (.cells #[.int .i64 a.q, .int .i64 a.id, .int .i64 a.k, .int .i64 a.c, .int .i64 a.d] 29))
            have OA8' := Lib.hid (own_grew (show w7.ownsRow wl.heap.size 29 5 _ _ _ from own7) ((Grew.refl w7).alloc (.cells #[.int .i64 a.q, .int .i64 a.id, .int .i64 a.k, .int .i64 a.c, .int .i64 a.d] 29)))
            have HNV : Hid (∀ g, (Value.slice B8 m e8).ownBlock = some g → w7.heap.size ≠ g) := fun g hg => by have := (own7.lt g hg).2; omega
            obtain ⟨w8, hw8⟩ : ∃ y, y = w7.alloc (.cells #[.int .i64 a.q, .int .i64 a.id, .int .i64 a.k, .int .i64 a.c, .int .i64 a.d] 29) := ⟨_, rfl⟩
            rw [← hw8] at HV8' S8' OA8' ⊢
            obtain ⟨vb, hvb⟩ : ∃ z, z = w7.heap.size := ⟨_, rfl⟩
            rw [← hvb] at HV8' HNV ⊢
            have HV8 : Hid (w8.heap[vb]? = some (.cells (ae a).toArray 29 (0, 0))) := HV8'.out
            have S8 := S8'
            have OA8 := OA8'
            clear hw8 hvb own7 g7 S7 hm8 HV8' S8' OA8'
            have hiL : posA a.q d.an ≤ m := by rw [← HLA.out]; exact pos_le _ _
            refine wpAnyH_step (i := 6) (by kernel_rfl) (fuel' := 1) (by kernel_rfl) (by simp only [pickOps, List.getElem?_toArray, List.getElem?_cons_zero, List.getElem?_cons_succ]; rfl) (by rfl) ?_
            intro K hK
            refine wp_call 40 #[.slice B8 m e8, .int .i64 (i : Int), .slice (some ⟨vb, 0, none⟩) 1 1] (by go_simp; first | done | rfl) ?_
            refine (ins_any B8 m e8 d.an a vb i w8 OA8.out HV8.out (fun g hg => HNV.out g hg) S8.le (by omega) hiL' HLA.out).mono ?_
            rintro r w9 ⟨B9, e9, rfl, own9, b9⟩
            have S9 : Grew wl.drew w9 := grew_trans' S8 b9
            refine ⟨_, rfl, hK _ _ S9 ?_⟩
            clear hK K
            simp only [Act.put, List.setIfInBounds_toArray, List.set_cons_zero, List.set_cons_succ]
            refine wpAnyH_takes (fun _ _ _ _ _ h => h) S9 [7] (fuel' := 0) (by kernel_rfl) (by kernel_rfl) (by simp only [pickOps, List.getElem?_toArray, List.getElem?_cons_zero, List.getElem?_cons_succ]; rfl) ?_
            repeat (first
              | (refine TakeP.pure (v := ?_) (by rfl) ?_ ?_; rotate_left; (intro w' g'; go_simp; first | done | with_reducible rfl); (simp only [Act.put, List.setIfInBounds_toArray, List.set_cons_zero, List.set_cons_succ])))
            refine TakeP.nil ?_
            refine wpAnyH_done (by kernel_rfl) ?_ _
            have gl9 : Grew wl w9 := (Grew.refl wl).drew.trans S9
            have HI9 : Hid (w9.ownsRow wl.heap.size 29 5 (.slice B9 (m + 1) e9) (m + 1) ((insA a d.an).flatMap ae)) := by unfold Hid insA; rw [HPOS.out]; exact own9
            have HB9 := Lib.hid (gl9.block HB7.out)
            have HRD9 : Hid (w9.rangeAt bd 0 [.slice A n c, .slice B m e]) := range_grew HRD7.out gl9
            have HD9 := Lib.hid (HH.out.grew (G7.out.trans gl9))
            have G9 := G7.out.trans gl9
            have hlw9 := gl9.le
            have hr0 := HRD9.out 0 _ rfl
            have hr1 := HRD9.out 1 _ rfl
            simp only [Nat.zero_add] at hr0 hr1
            clear own9 b9 S9 S8 OA8 HV8 HNV hC HRD7 HB7
            go_wp2_with fail
            clear hr0 hr1
            refine (pays_any A B n c m e d.ss _ HD9.out.1 (by omega)).mono ?_
            rintro r w10 ⟨A10, n10, c10, rfl, hl10, own10, g10⟩
            have HP10 : Hid (Pays w10 A10 n10 c10 (paysOf d)) := ⟨Recs.own hl10 own10, WfP.of HH.out.1.2⟩
            have hn10 : n10 ≤ 410 := by rw [← hl10, List.length_map, HL.out]; omega
            have HI10 := Lib.hid (own_grew HI9.out g10)
            have HA10 : Hid (Anss w10 B9 (m + 1) e9 (insA a d.an)) := Recs.own (by rw [insA_len, HLA.out]) HI10.out
            have HB10 := Lib.hid (g10.block HB9.out)
            have G10 := G9.trans g10
            have hlw10 := g10.le
            clear own10 hl10 HI9 HB9 HRD9 HD9 G9 g10
            go_wp2_with fail
            refine (stands_any A10 B9 n10 c10 (m + 1) e9 (paysOf d) (insA a d.an) _ HP10.out HA10.out hn10 (by omega)).mono ?_
            rintro r w11 (⟨hso, rfl, g11⟩ | ⟨hso, C11, n11, c11, rfl, hl11, own11, g11⟩)
            · have HE : Hid (applyE d a = 401) := app_state HVP.out HFN.out (by rw [HLA.out]; exact hm2) hso
              have HD := Lib.hid (appD_no HE.out (by decide))
              have HB11 := Lib.hid (g11.block HB10.out)
              have y0 := row_at (l := [.slice none 0 0, .slice none 0 0]) HB11.out 0 _ rfl
              have y1 := row_at (l := [.slice none 0 0, .slice none 0 0]) HB11.out 1 _ rfl
              have f0 := row_free HB11.out 0
              have f1 := row_free HB11.out 1
              simp only [Nat.zero_add] at y0 y1
              have G11 := G10.trans g11
              clear hso HP10 HA10 HI10
              go_wp2_with fail
              refine bodyPost_ret (results_dsk rfl _ _ b4 _ rfl (set2 HB11.out _ _) rfl) rfl ?_
              exact ⟨none, 0, 0, none, 0, 0, ret_dsk HE.out.symm, by rw [HD.out]; exact desk_nil _, (G11.set hb4 _).set hb4 _, fresh_none, fresh_none⟩
            · have HE : Hid (applyE d a = 0) := app_ok HVP.out HFN.out (by rw [HLA.out]; exact hm2) hso
              have HD := Lib.hid (appD_ok HE.out HFN.out)
              have HB11 := Lib.hid (g11.block HB10.out)
              have y0 := row_at (l := [.slice none 0 0, .slice none 0 0]) HB11.out 0 _ rfl
              have y1 := row_at (l := [.slice none 0 0, .slice none 0 0]) HB11.out 1 _ rfl
              have f0 := row_free HB11.out 0
              have f1 := row_free HB11.out 1
              simp only [Nat.zero_add] at y0 y1
              have G11 := G10.trans g11
              have OS11 := Lib.hid own11
              have OA11 := Lib.hid (own_grew HI10.out g11)
              have HL11 := Lib.hid hl11
              clear hso HP10 HA10 HI10 own11 hl11 g11 HB10 G10
              go_wp2_with fail
              refine bodyPost_ret (results_dsk rfl _ _ b4 _ rfl (set2 HB11.out _ _) rfl) rfl ?_
              refine ⟨C11, n11, c11, B9, m + 1, e9, ret_dsk HE.out.symm, ?_, (G11.set hb4 _).set hb4 _, own_fresh OS11.out (by omega), own_fresh OA11.out (by omega)⟩
              rw [HD.out]
              refine ⟨⟨Recs.own HL11.out (own_set2 OS11.out (by omega) _ _), fun s hs => ?_⟩, Recs.own (by rw [insA_len, HLA.out]) (own_set2 OA11.out hbl _ _)⟩
              obtain ⟨p, hp, rfl⟩ := List.mem_map.1 hs
              exact (WfP.of HH.out.1.2) p hp
          · intro K hK
            go_simp
            have S0 : Grew wl.drew (wl.alloc (.cells #[.int .i64 a.q, .int .i64 a.id, .int .i64 a.k, .int .i64 a.c, .int .i64 a.d] 29)).drew := show Grew wl.drew (wl.drew.alloc (.cells #[.int .i64 a.q, .int .i64 a.id, .int .i64 a.k, .int .i64 a.c, .int .i64 a.d] 29)) from (Grew.refl wl.drew).alloc _
            refine hK _ _ S0 ?_
            clear hK K
            have HV0 : Hid ((wl.alloc (.cells #[.int .i64 a.q, .int .i64 a.id, .int .i64 a.k, .int .i64 a.c, .int .i64 a.d] 29)).drew.heap[wl.heap.size]? = some (.cells #[.int .i64 a.q, .int .i64 a.id, .int .i64 a.k, .int .i64 a.c, .int .i64 a.d] 29)) := heap_alloc_new wl _
            obtain ⟨w7, hw7⟩ : ∃ y, y = (wl.alloc (.cells #[.int .i64 a.q, .int .i64 a.id, .int .i64 a.k, .int .i64 a.c, .int .i64 a.d] 29)).drew := ⟨_, rfl⟩
            have hvw : wl.heap.size < w7.heap.size := by rw [hw7]; exact (Array.getElem?_eq_some_iff.1 HV0.out).1
            rw [← hw7] at HV0 S0 ⊢
            clear hw7
            refine wpAnyH_step (i := 2) (by kernel_rfl) (fuel' := 2) (by kernel_rfl) (by simp only [pickOps, List.getElem?_toArray, List.getElem?_cons_zero, List.getElem?_cons_succ]; rfl) (by rfl) ?_
            intro K hK
            refine wp_call 32 #[.slice B m e] (by go_simp; first | done | rfl) ?_
            refine (cloneA_any B m e d.an _ (HH.out.2.grew (G7.out.drew.trans S0)) (by omega)).mono ?_
            rintro r w8 ⟨B8, m8, e8, rfl, hm8, own8, g8⟩
            obtain rfl : m = m8 := by rw [← hm8, HLA.out]
            have S8 : Grew wl.drew w8 := S0.trans g8
            refine ⟨_, rfl, hK _ _ S8 ?_⟩
            clear hK K
            simp only [Act.put, List.setIfInBounds_toArray, List.set_cons_zero, List.set_cons_succ]
            have HNV : Hid (∀ g, (Value.slice B8 m e8).ownBlock = some g → wl.heap.size ≠ g) := fun g hg => by have := (own8.lt g hg).1; omega
            have HV8 : Hid (w8.heap[wl.heap.size]? = some (.cells (ae a).toArray 29 (0, 0))) := g8.block HV0.out
            have OA8 : Hid (w8.ownsRow wl.heap.size 29 5 (.slice B8 m e8) m (d.an.flatMap ae)) := own_base own8 S0.le
            clear own8 g8 HV0 S0 hm8
            have hiL : posA a.q d.an ≤ m := by rw [← HLA.out]; exact pos_le _ _
            refine wpAnyH_step (i := 6) (by kernel_rfl) (fuel' := 1) (by kernel_rfl) (by simp only [pickOps, List.getElem?_toArray, List.getElem?_cons_zero, List.getElem?_cons_succ]; rfl) (by rfl) ?_
            intro K hK
            refine wp_call 40 #[.slice B8 m e8, .int .i64 (i : Int), .slice (some ⟨wl.heap.size, 0, none⟩) 1 1] (by go_simp; first | done | rfl) ?_
            refine (ins_any B8 m e8 d.an a wl.heap.size i w8 OA8.out HV8.out (fun g hg => HNV.out g hg) S8.le (by omega) hiL' HLA.out).mono ?_
            rintro r w9 ⟨B9, e9, rfl, own9, b9⟩
            have S9 : Grew wl.drew w9 := grew_trans' S8 b9
            refine ⟨_, rfl, hK _ _ S9 ?_⟩
            clear hK K
            simp only [Act.put, List.setIfInBounds_toArray, List.set_cons_zero, List.set_cons_succ]
            refine wpAnyH_takes (fun _ _ _ _ _ h => h) S9 [7] (fuel' := 0) (by kernel_rfl) (by kernel_rfl) (by simp only [pickOps, List.getElem?_toArray, List.getElem?_cons_zero, List.getElem?_cons_succ]; rfl) ?_
            repeat (first
              | (refine TakeP.pure (v := ?_) (by rfl) ?_ ?_; rotate_left; (intro w' g'; go_simp; first | done | with_reducible rfl); (simp only [Act.put, List.setIfInBounds_toArray, List.set_cons_zero, List.set_cons_succ])))
            refine TakeP.nil ?_
            refine wpAnyH_done (by kernel_rfl) ?_ _
            have gl9 : Grew wl w9 := (Grew.refl wl).drew.trans S9
            have HI9 : Hid (w9.ownsRow wl.heap.size 29 5 (.slice B9 (m + 1) e9) (m + 1) ((insA a d.an).flatMap ae)) := by unfold Hid insA; rw [HPOS.out]; exact own9
            have HB9 := Lib.hid (gl9.block HB7.out)
            have HRD9 : Hid (w9.rangeAt bd 0 [.slice A n c, .slice B m e]) := range_grew HRD7.out gl9
            have HD9 := Lib.hid (HH.out.grew (G7.out.trans gl9))
            have G9 := G7.out.trans gl9
            have hlw9 := gl9.le
            have hr0 := HRD9.out 0 _ rfl
            have hr1 := HRD9.out 1 _ rfl
            simp only [Nat.zero_add] at hr0 hr1
            clear own9 b9 S9 S8 OA8 HV8 HNV hC HRD7 HB7
            go_wp2_with fail
            clear hr0 hr1
            refine (pays_any A B n c m e d.ss _ HD9.out.1 (by omega)).mono ?_
            rintro r w10 ⟨A10, n10, c10, rfl, hl10, own10, g10⟩
            have HP10 : Hid (Pays w10 A10 n10 c10 (paysOf d)) := ⟨Recs.own hl10 own10, WfP.of HH.out.1.2⟩
            have hn10 : n10 ≤ 410 := by rw [← hl10, List.length_map, HL.out]; omega
            have HI10 := Lib.hid (own_grew HI9.out g10)
            have HA10 : Hid (Anss w10 B9 (m + 1) e9 (insA a d.an)) := Recs.own (by rw [insA_len, HLA.out]) HI10.out
            have HB10 := Lib.hid (g10.block HB9.out)
            have G10 := G9.trans g10
            have hlw10 := g10.le
            clear own10 hl10 HI9 HB9 HRD9 HD9 G9 g10
            go_wp2_with fail
            refine (stands_any A10 B9 n10 c10 (m + 1) e9 (paysOf d) (insA a d.an) _ HP10.out HA10.out hn10 (by omega)).mono ?_
            rintro r w11 (⟨hso, rfl, g11⟩ | ⟨hso, C11, n11, c11, rfl, hl11, own11, g11⟩)
            · have HE : Hid (applyE d a = 401) := app_state HVP.out HFN.out (by rw [HLA.out]; exact hm2) hso
              have HD := Lib.hid (appD_no HE.out (by decide))
              have HB11 := Lib.hid (g11.block HB10.out)
              have y0 := row_at (l := [.slice none 0 0, .slice none 0 0]) HB11.out 0 _ rfl
              have y1 := row_at (l := [.slice none 0 0, .slice none 0 0]) HB11.out 1 _ rfl
              have f0 := row_free HB11.out 0
              have f1 := row_free HB11.out 1
              simp only [Nat.zero_add] at y0 y1
              have G11 := G10.trans g11
              clear hso HP10 HA10 HI10
              go_wp2_with fail
              refine bodyPost_ret (results_dsk rfl _ _ b4 _ rfl (set2 HB11.out _ _) rfl) rfl ?_
              exact ⟨none, 0, 0, none, 0, 0, ret_dsk HE.out.symm, by rw [HD.out]; exact desk_nil _, (G11.set hb4 _).set hb4 _, fresh_none, fresh_none⟩
            · have HE : Hid (applyE d a = 0) := app_ok HVP.out HFN.out (by rw [HLA.out]; exact hm2) hso
              have HD := Lib.hid (appD_ok HE.out HFN.out)
              have HB11 := Lib.hid (g11.block HB10.out)
              have y0 := row_at (l := [.slice none 0 0, .slice none 0 0]) HB11.out 0 _ rfl
              have y1 := row_at (l := [.slice none 0 0, .slice none 0 0]) HB11.out 1 _ rfl
              have f0 := row_free HB11.out 0
              have f1 := row_free HB11.out 1
              simp only [Nat.zero_add] at y0 y1
              have G11 := G10.trans g11
              have OS11 := Lib.hid own11
              have OA11 := Lib.hid (own_grew HI10.out g11)
              have HL11 := Lib.hid hl11
              clear hso HP10 HA10 HI10 own11 hl11 g11 HB10 G10
              go_wp2_with fail
              refine bodyPost_ret (results_dsk rfl _ _ b4 _ rfl (set2 HB11.out _ _) rfl) rfl ?_
              refine ⟨C11, n11, c11, B9, m + 1, e9, ret_dsk HE.out.symm, ?_, (G11.set hb4 _).set hb4 _, own_fresh OS11.out (by omega), own_fresh OA11.out (by omega)⟩
              rw [HD.out]
              refine ⟨⟨Recs.own HL11.out (own_set2 OS11.out (by omega) _ _), fun s hs => ?_⟩, Recs.own (by rw [insA_len, HLA.out]) (own_set2 OA11.out hbl _ _)⟩
              obtain ⟨p, hp, rfl⟩ := List.mem_map.1 hs
              exact (WfP.of HH.out.1.2) p hp
theorem applyF_val {A B : Option Addr} {n c m e : Nat} {d d' : Desk} {a : Ans} {w : World} {z : Int} (h : DeskIs w A n c B m e d) (he : applyE d a = z) (hd : applyD d a = d') : Calls Try.prog 13 #[.agg #[.slice A n c, .slice B m e], av a] w (RetDF z d' w) := by
  subst he hd; exact applyF_any A B n c m e d a w h
end Go.Proofs.Ytaocjobbfcfleaa
