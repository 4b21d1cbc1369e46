/-
  The entries of events: sent.entry, answered.entry.
-/
import Derived.Test.YtaocjobbfcfleaaSortE
namespace Go.Proofs.Ytaocjobbfcfleaa
open Go.RowKit Go.Proofs WageMem WageOrd WageRec WageMap WageReg WageSet

theorem set6 {w : World} {b : Nat} (h : w.heap[b]? = some (.cells #[.int .i64 0, .string { data := #[] }, .string { data := #[] }, .int .i64 0, .int .i64 0, .int .i64 0] 50)) (v0 v1 v2 v3 v4 v5 : Value) : ((((((w.setCell ⟨b, 0, none⟩ v0).setCell ⟨b, 1, none⟩ v1).setCell ⟨b, 2, none⟩ v2).setCell ⟨b, 3, none⟩ v3).setCell ⟨b, 4, none⟩ v4).setCell ⟨b, 5, none⟩ v5).heap[b]? = some (.cells #[v0, v1, v2, v3, v4, v5] 50) := by
  have h0 := Go.heap_setCell_same w b 0 _ 50 v0 h
  have h1 := Go.heap_setCell_same _ b 1 _ 50 v1 h0
  have h2 := Go.heap_setCell_same _ b 2 _ 50 v2 h1
  have h3 := Go.heap_setCell_same _ b 3 _ 50 v3 h2
  have h4 := Go.heap_setCell_same _ b 4 _ 50 v4 h3
  have h5 := Go.heap_setCell_same _ b 5 _ 50 v5 h4
  simpa using h5
set_option maxRecDepth 100000 in
set_option maxHeartbeats 4000000 in
theorem sent_any (p : Pay) (w : World) (hp : 0 ≤ p.id ∧ p.id ≤ 400000000000) : Calls Try.prog 105 #[.agg #[.int .i64 p.id, .string p.acc, .int .i64 p.c, .int .i64 p.d]] w fun e w' => e = .returned (nv (sentE p)) ∧ Grew w w' := by
  obtain ⟨b2, hb2'⟩ : ∃ b, b = w.heap.size + 1 := ⟨_, rfl⟩
  obtain ⟨b3, hb3'⟩ : ∃ b, b = w.heap.size + 1 + 1 := ⟨_, rfl⟩
  obtain ⟨w1, hw1⟩ : ∃ x, x = w.alloc (.cells #[.int .i64 p.id, .string p.acc, .int .i64 p.c, .int .i64 p.d] 80) := ⟨_, rfl⟩
  obtain ⟨w2, hw2⟩ : ∃ x, x = w1.alloc (.cells #[.int .i64 0, .string { data := #[] }, .string { data := #[] }, .int .i64 0, .int .i64 0, .int .i64 0] 50) := ⟨_, rfl⟩
  obtain ⟨w3, hw3⟩ : ∃ x, x = w2.alloc (.cells #[.int .i64 p.id, .string p.acc, .int .i64 p.c, .int .i64 p.d] 27) := ⟨_, rfl⟩
  have g1 : Grew w w1 := by rw [hw1]; exact (Grew.refl w).alloc _
  have g12 : Grew w1 w2 := by rw [hw2]; exact (Grew.refl w1).alloc _
  have g23 : Grew w2 w3 := by rw [hw3]; exact (Grew.refl w2).alloc _
  have sz1 : w1.heap.size = w.heap.size + 1 := by rw [hw1]; simp
  have sz2 : w2.heap.size = w.heap.size + 1 + 1 := by rw [hw2]; simp [sz1]
  have HB2 : Hid (w3.heap[b2]? = some (.cells #[.int .i64 0, .string { data := #[] }, .string { data := #[] }, .int .i64 0, .int .i64 0, .int .i64 0] 50)) := by unfold Hid; exact g23.block (by rw [hb2', ← sz1, hw2]; exact heap_alloc_new w1 _)
  have HRP : Hid (w3.rangeAt w2.heap.size 0 (pe p)) := by unfold Hid; rw [hw3]; exact range_new w2 (pe p) 27
  have G5 := Lib.hid ((g1.trans g12).trans g23)
  have hb2 : w.heap.size ≤ b2 := by omega
  have HV : Hid (sentE p = ⟨2 * p.id, p.acc, transit, p.c, p.d, p.d⟩) := rfl
  have m1 : IntKind.i64.wrap (2 * p.id) = 2 * p.id := IntWalk.i64_in _ (by omega)
  rw [sz2, ← hb3'] at HRP
  have hpc := p_cells0 HRP.out
  obtain ⟨c0, c1, c2, c3⟩ := hpc
  have hZ := row_at (l := [.int .i64 0, .string ⟨#[]⟩, .string ⟨#[]⟩, .int .i64 0, .int .i64 0, .int .i64 0]) HB2.out
  have y0 := hZ 0 _ rfl
  have y1 := hZ 1 _ rfl
  have y2 := hZ 2 _ rfl
  have y3 := hZ 3 _ rfl
  have y4 := hZ 4 _ rfl
  have y5 := hZ 5 _ rfl
  simp only [Nat.zero_add] at y0 y1 y2 y3 y4 y5
  have f0 := row_free HB2.out 0
  have f1 := row_free HB2.out 1
  have f2 := row_free HB2.out 2
  have f3 := row_free HB2.out 3
  have f4 := row_free HB2.out 4
  have f5 := row_free HB2.out 5
  clear hZ
  clear g1 g12 g23 sz1 sz2 HRP hp
  go_enter Try.func105, Try.ntmps105
  go_upto_region 2 with (fail)
  rw [← hw1]
  rw [← hw2]
  rw [← hw3, ← hb3', ← hb2']
  clear hw1 hw2 hw3 hb2' hb3'
  go_wp2_with fail
  refine bodyPost_ret (results_cell_row rfl _ _ b2 50 _ (0, 0) _ rfl (set6 HB2.out _ _ _ _ _ _) Try.underlying50 rfl (by kernel_rfl)) rfl ?_
  exact ⟨by rw [HV.out]; rfl, (((((G5.out.set hb2 _).set hb2 _).set hb2 _).set hb2 _).set hb2 _).set hb2 _⟩
/-- What an answer's entry reads of its payment. -/
def RdE (w' : World) (bx : Nat) (p : Pay) : Prop := w'.cell? ⟨bx, 1, none⟩ = some (.string p.acc) ∧ w'.cell? ⟨bx, 2, none⟩ = some (.int .i64 p.c)
theorem RdE.set {w : World} {bx b : Nat} {p : Pay} (h : RdE w bx p) (hne : bx ≠ b) (o : Nat) (v : Value) : RdE (w.setCell ⟨b, o, none⟩ v) bx p :=
  ⟨(World.cell?_setCell_other _ _ _ _ (fun e => hne (by injection e with e; exact e.symm))).trans h.1, (World.cell?_setCell_other _ _ _ _ (fun e => hne (by injection e with e; exact e.symm))).trans h.2⟩
set_option maxRecDepth 100000 in
set_option maxHeartbeats 8000000 in
theorem answ_any (p : Pay) (a : Ans) (w : World) (hq : 0 ≤ a.q ∧ a.q ≤ 400000000000) (hk : a.k = 2 ∨ a.k = 3 ∨ a.k = 4) : Calls Try.prog 106 #[.agg #[.int .i64 p.id, .string p.acc, .int .i64 p.c, .int .i64 p.d, .int .i64 a.q, .int .i64 a.id, .int .i64 a.k, .int .i64 a.c, .int .i64 a.d]] w fun e w' => e = .returned (nv (answE p a)) ∧ Grew w w' := by
  obtain ⟨bx, hbx'⟩ : ∃ b, b = w.heap.size := ⟨_, rfl⟩
  obtain ⟨b2, hb2'⟩ : ∃ b, b = w.heap.size + 1 := ⟨_, rfl⟩
  obtain ⟨b3, hb3'⟩ : ∃ b, b = w.heap.size + 1 + 1 := ⟨_, rfl⟩
  obtain ⟨b4, hb4'⟩ : ∃ b, b = w.heap.size + 1 + 1 + 1 := ⟨_, rfl⟩
  obtain ⟨w1, hw1⟩ : ∃ x, x = w.alloc (.cells #[.int .i64 p.id, .string p.acc, .int .i64 p.c, .int .i64 p.d, .int .i64 a.q, .int .i64 a.id, .int .i64 a.k, .int .i64 a.c, .int .i64 a.d] 82) := ⟨_, rfl⟩
  obtain ⟨w2, hw2⟩ : ∃ x, x = w1.alloc (.cells #[.int .i64 0, .string { data := #[] }, .string { data := #[] }, .int .i64 0, .int .i64 0, .int .i64 0] 50) := ⟨_, rfl⟩
  obtain ⟨w3, hw3⟩ : ∃ x, x = w2.alloc (.cells #[.int .i64 a.q, .int .i64 a.id, .int .i64 a.k, .int .i64 a.c, .int .i64 a.d] 29) := ⟨_, rfl⟩
  obtain ⟨w4, hw4⟩ : ∃ x, x = w3.alloc (.cells #[.int .i64 (2 * a.q + 1), .string { data := #[] }, .string { data := #[] }, .int .i64 a.c, .int .i64 a.d, .int .i64 a.d] 50) := ⟨_, rfl⟩
  have g1 : Grew w w1 := by rw [hw1]; exact (Grew.refl w).alloc _
  have g12 : Grew w1 w2 := by rw [hw2]; exact (Grew.refl w1).alloc _
  have g23 : Grew w2 w3 := by rw [hw3]; exact (Grew.refl w2).alloc _
  have g34 : Grew w3 w4 := by rw [hw4]; exact (Grew.refl w3).alloc _
  have sz1 : w1.heap.size = w.heap.size + 1 := by rw [hw1]; simp
  have sz2 : w2.heap.size = w.heap.size + 1 + 1 := by rw [hw2]; simp [sz1]
  have sz3 : w3.heap.size = w.heap.size + 1 + 1 + 1 := by rw [hw3]; simp [sz2]
  have HB20 : Hid (w4.heap[b2]? = some (.cells #[.int .i64 0, .string { data := #[] }, .string { data := #[] }, .int .i64 0, .int .i64 0, .int .i64 0] 50)) := by unfold Hid; exact g34.block (g23.block (by rw [hb2', ← sz1, hw2]; exact heap_alloc_new w1 _))
  have HB40 : Hid (w4.heap[b4]? = some (.cells #[.int .i64 (2 * a.q + 1), .string { data := #[] }, .string { data := #[] }, .int .i64 a.c, .int .i64 a.d, .int .i64 a.d] 50)) := by unfold Hid; rw [hb4', ← sz3, hw4]; exact heap_alloc_new w3 _
  have hra3 : w3.rangeAt b3 0 (ae a) := by rw [hb3', ← sz2, hw3]; exact range_new w2 (ae a) 29
  have HRA : Hid (w4.rangeAt b3 0 (ae a)) := range_grew hra3 g34
  have HRX : Hid (w4.rangeAt bx 0 [.int .i64 p.id, .string p.acc, .int .i64 p.c, .int .i64 p.d, .int .i64 a.q, .int .i64 a.id, .int .i64 a.k, .int .i64 a.c, .int .i64 a.d]) := range_grew (by rw [hbx', hw1]; exact range_new w _ 82) ((g12.trans g23).trans g34)
  have HRE : Hid (RdE w4.drew bx p) := ⟨by have := HRX.out 1 _ rfl; simpa using this, by have := HRX.out 2 _ rfl; simpa using this⟩
  have G40 := Lib.hid (((g1.trans g12).trans g23).trans g34)
  have HB40d : w4.drew.heap[b4]? = some (.cells #[.int .i64 (2 * a.q + 1), .string { data := #[] }, .string { data := #[] }, .int .i64 a.c, .int .i64 a.d, .int .i64 a.d] 50) := HB40.out
  have HB20d : w4.drew.heap[b2]? = some (.cells #[.int .i64 0, .string { data := #[] }, .string { data := #[] }, .int .i64 0, .int .i64 0, .int .i64 0] 50) := HB20.out
  have G40d : Grew w w4.drew := G40.out.drew
  have hb2 : w.heap.size ≤ b2 := by omega
  have hb4 : w.heap.size ≤ b4 := by omega
  have hne : b2 ≠ b4 := by omega
  have hbx : bx ≠ b4 := by omega
  have m1 : IntKind.i64.wrap (2 * a.q) = 2 * a.q := IntWalk.i64_in _ (by omega)
  have m2 : IntKind.i64.wrap (2 * a.q + 1) = 2 * a.q + 1 := IntWalk.i64_in _ (by omega)
  obtain ⟨u0, u1, u2, u3, u4⟩ := a_cells0 hra3
  have HSZ : Hid (w3.heap.size = b4) := by unfold Hid; omega
  have HW4 := Lib.hid hw4
  clear g1 g12 g23 g34 sz1 sz2 sz3 hra3 hq HRX hw4
  go_enter Try.func106, Try.ntmps106
  go_upto_region 2 with (fail)
  rw [← hw1]
  rw [← hw2]
  rw [← hw3, ← hb3', ← hb2', ← hbx']
  clear hw1 hw2 hw3 hb2' hb3' hb4' hbx'
  go_upto_region 3 with (fail)
  rw [← HW4.out, HSZ.out]
  clear HW4 HSZ u0 u1 u2 u3 u4 m1 m2
  rcases hk with hk | hk | hk
  · have HV : Hid (answE p a = ⟨2 * a.q + 1, transit, bank, a.c, a.d, a.d⟩) := by unfold Hid answE; rw [if_pos hk]
    have k2 : (a.k == 2) = true := by rw [hk]; rfl
    have hA := a_cells0 HRA.out
    obtain ⟨c0, c1, c2, c3, c4⟩ := hA
    have hI := row_at (l := [.int .i64 (2 * a.q + 1), .string { data := #[] }, .string { data := #[] }, .int .i64 a.c, .int .i64 a.d, .int .i64 a.d]) HB40.out
    have i1 := hI 1 _ rfl
    have i2 := hI 2 _ rfl
    have i3 := hI 3 _ rfl
    simp only [Nat.zero_add] at i1 i2 i3
    have j1 := row_free HB40.out 1
    have j2 := row_free HB40.out 2
    have j3 := row_free HB40.out 3
    clear hI
    obtain ⟨w5, hw5⟩ : ∃ x, x = ((w4.setCell ⟨b4, 1, none⟩ (.string { data := #[105, 110, 95, 116, 114, 97, 110, 115, 105, 116] })).setCell ⟨b4, 2, none⟩ (.string { data := #[97, 116, 95, 98, 97, 110, 107] })) := ⟨_, rfl⟩
    have hs0 := Go.heap_setCell_same w4 b4 1 _ 50 (.string { data := #[105, 110, 95, 116, 114, 97, 110, 115, 105, 116] }) HB40.out
    have hs1 := Go.heap_setCell_same (w4.setCell ⟨b4, 1, none⟩ (.string { data := #[105, 110, 95, 116, 114, 97, 110, 115, 105, 116] })) b4 2 _ 50 (.string { data := #[97, 116, 95, 98, 97, 110, 107] }) hs0
    have HB4 : Hid (w5.heap[b4]? = some (.cells #[.int .i64 (2 * a.q + 1), .string { data := #[105, 110, 95, 116, 114, 97, 110, 115, 105, 116] }, .string { data := #[97, 116, 95, 98, 97, 110, 107] }, .int .i64 a.c, .int .i64 a.d, .int .i64 a.d] 50)) := by unfold Hid; rw [hw5]; simpa using hs1
    have HB2 : Hid (w5.heap[b2]? = some (.cells #[.int .i64 0, .string { data := #[] }, .string { data := #[] }, .int .i64 0, .int .i64 0, .int .i64 0] 50)) := by unfold Hid; rw [hw5]; exact (Below.heap_setCell _ _ _ _ hne).trans ((Below.heap_setCell _ _ _ _ hne).trans (HB20.out))
    have G5 : Hid (Grew w w5) := by unfold Hid; rw [hw5]; exact ((G40.out.set hb4 _).set hb4 _)
    clear hk hs0 hs1
    go_upto_region 10 with (fail)
    rw [← hw5]
    clear hw5 i1 i2 i3 j1 j2 j3 c0 c1 c2 c3 c4 k2
    have hE := row_at (l := [.int .i64 (2 * a.q + 1), .string { data := #[105, 110, 95, 116, 114, 97, 110, 115, 105, 116] }, .string { data := #[97, 116, 95, 98, 97, 110, 107] }, .int .i64 a.c, .int .i64 a.d, .int .i64 a.d]) HB4.out
    have e0 := hE 0 _ rfl
    have e1 := hE 1 _ rfl
    have e2 := hE 2 _ rfl
    have e3 := hE 3 _ rfl
    have e4 := hE 4 _ rfl
    have e5 := hE 5 _ rfl
    simp only [Nat.zero_add] at e0 e1 e2 e3 e4 e5
    clear hE
    have hZ := row_at (l := [.int .i64 0, .string ⟨#[]⟩, .string ⟨#[]⟩, .int .i64 0, .int .i64 0, .int .i64 0]) HB2.out
    have y0 := hZ 0 _ rfl
    have y1 := hZ 1 _ rfl
    have y2 := hZ 2 _ rfl
    have y3 := hZ 3 _ rfl
    have y4 := hZ 4 _ rfl
    have y5 := hZ 5 _ rfl
    simp only [Nat.zero_add] at y0 y1 y2 y3 y4 y5
    have f0 := row_free HB2.out 0
    have f1 := row_free HB2.out 1
    have f2 := row_free HB2.out 2
    have f3 := row_free HB2.out 3
    have f4 := row_free HB2.out 4
    have f5 := row_free HB2.out 5
    clear hZ
    go_wp2_with fail
    refine bodyPost_ret (results_cell_row rfl _ _ b2 50 _ (0, 0) _ rfl (set6 HB2.out _ _ _ _ _ _) Try.underlying50 rfl (by kernel_rfl)) rfl ?_
    exact ⟨by rw [HV.out]; rfl, (((((G5.out.set hb2 _).set hb2 _).set hb2 _).set hb2 _).set hb2 _).set hb2 _⟩
  · have HV : Hid (answE p a = ⟨2 * a.q + 1, transit, p.acc, p.c, a.d, a.d⟩) := by unfold Hid answE; rw [if_neg (by omega), if_pos hk]
    have k2 : (a.k == 2) = false := by rw [hk]; rfl
    have k3 : (a.k == 3) = true := by rw [hk]; rfl
    have hA := a_cells0 HRA.out
    obtain ⟨c0, c1, c2, c3, c4⟩ := hA
    have hI := row_at (l := [.int .i64 (2 * a.q + 1), .string { data := #[] }, .string { data := #[] }, .int .i64 a.c, .int .i64 a.d, .int .i64 a.d]) HB40.out
    have i1 := hI 1 _ rfl
    have i2 := hI 2 _ rfl
    have i3 := hI 3 _ rfl
    simp only [Nat.zero_add] at i1 i2 i3
    have j1 := row_free HB40.out 1
    have j2 := row_free HB40.out 2
    have j3 := row_free HB40.out 3
    clear hI
    go_wp2_with fail
    clear c0 c1 c2 c3 c4 hk i1 i2 i3 j1 j2 j3
    refine wp_region_H (by kernel_rfl) (fun w' => RdE w' bx p) ?_
    refine wpAnyH_takes (fun _ _ _ _ _ h => h) HRE.out [0, 1, 2, 3, 4, 5, 6] (fuel' := 5) (by kernel_rfl) (by kernel_rfl) (by simp only [pickOps, List.getElem?_toArray, List.getElem?_cons_zero, List.getElem?_cons_succ]; rfl) ?_
    repeat (first
      | (refine TakeP.pure (v := ?_) (by rfl) ?_ ?_; rotate_left; (intro w' g'; obtain ⟨d0, d1⟩ := g'; go_simp; first | done | with_reducible rfl); (simp only [Act.put, List.setIfInBounds_toArray, List.set_cons_zero, List.set_cons_succ])))
    refine TakeP.nil ?_
    obtain ⟨wd, hwd⟩ : ∃ x, x = w4.drew := ⟨_, rfl⟩
    rw [← hwd] at HB40d HB20d G40d HRE ⊢
    clear hwd
    refine wpAnyH_step (i := 7) (by kernel_rfl) (fuel' := 4) (by kernel_rfl) (by simp only [pickOps, List.getElem?_toArray, List.getElem?_cons_zero, List.getElem?_cons_succ]; rfl) (by rfl) ?_
    intro K hK
    have i0 := (row_at (l := [.int .i64 (2 * a.q + 1), .string { data := #[] }, .string { data := #[] }, .int .i64 a.c, .int .i64 a.d, .int .i64 a.d]) HB40d) 1 _ rfl
    simp only [Nat.zero_add] at i0
    have j0 := row_free HB40d 1
    go_simp
    have S0 := RdE.set HRE.out hbx 1 (.string { data := #[105, 110, 95, 116, 114, 97, 110, 115, 105, 116] })
    refine hK _ _ S0 ?_
    clear hK K
    have h0 := Go.heap_setCell_same (wd) b4 1 _ 50 (.string { data := #[105, 110, 95, 116, 114, 97, 110, 115, 105, 116] }) HB40d
    have hb0 := (Below.heap_setCell (wd) ⟨b4, 1, none⟩ (.string { data := #[105, 110, 95, 116, 114, 97, 110, 115, 105, 116] }) b2 hne).trans HB20d
    have gg0 := Grew.set G40d (p := ⟨b4, 1, none⟩) hb4 (.string { data := #[105, 110, 95, 116, 114, 97, 110, 115, 105, 116] })
    simp only [List.setIfInBounds_toArray, List.set_cons_zero, List.set_cons_succ] at h0
    obtain ⟨x0, hw0⟩ : ∃ x, x = (wd).setCell ⟨b4, 1, none⟩ (.string { data := #[105, 110, 95, 116, 114, 97, 110, 115, 105, 116] }) := ⟨_, rfl⟩
    rw [← hw0] at S0 h0 hb0 gg0 ⊢
    clear hw0 i0 j0
    refine wpAnyH_takes (fun _ _ _ _ _ h => h) S0 [8] (fuel' := 3) (by kernel_rfl) (by kernel_rfl) (by simp only [pickOps, List.getElem?_toArray, List.getElem?_cons_zero, List.getElem?_cons_succ]; rfl) ?_
    repeat (first
      | (refine TakeP.pure (v := ?_) (by rfl) ?_ ?_; rotate_left; (intro w' g'; go_simp; first | done | with_reducible rfl); (simp only [Act.put, List.setIfInBounds_toArray, List.set_cons_zero, List.set_cons_succ])))
    refine TakeP.nil ?_
    refine wpAnyH_step (i := 9) (by kernel_rfl) (fuel' := 2) (by kernel_rfl) (by simp only [pickOps, List.getElem?_toArray, List.getElem?_cons_zero, List.getElem?_cons_succ]; rfl) (by rfl) ?_
    intro K hK
    have i1 := (row_at (l := [.int .i64 (2 * a.q + 1), .string { data := #[105, 110, 95, 116, 114, 97, 110, 115, 105, 116] }, .string { data := #[] }, .int .i64 a.c, .int .i64 a.d, .int .i64 a.d]) h0) 2 _ rfl
    simp only [Nat.zero_add] at i1
    have j1 := row_free h0 2
    go_simp
    have S1 := RdE.set S0 hbx 2 (.string p.acc)
    refine hK _ _ S1 ?_
    clear hK K
    have h1 := Go.heap_setCell_same (x0) b4 2 _ 50 (.string p.acc) h0
    have hb1 := (Below.heap_setCell (x0) ⟨b4, 2, none⟩ (.string p.acc) b2 hne).trans hb0
    have gg1 := Grew.set gg0 (p := ⟨b4, 2, none⟩) hb4 (.string p.acc)
    simp only [List.setIfInBounds_toArray, List.set_cons_zero, List.set_cons_succ] at h1
    obtain ⟨x1, hw1⟩ : ∃ x, x = (x0).setCell ⟨b4, 2, none⟩ (.string p.acc) := ⟨_, rfl⟩
    rw [← hw1] at S1 h1 hb1 gg1 ⊢
    clear hw1 i1 j1
    refine wpAnyH_takes (fun _ _ _ _ _ h => h) S1 [10] (fuel' := 1) (by kernel_rfl) (by kernel_rfl) (by simp only [pickOps, List.getElem?_toArray, List.getElem?_cons_zero, List.getElem?_cons_succ]; rfl) ?_
    repeat (first
      | (refine TakeP.pure (v := ?_) (by rfl) ?_ ?_; rotate_left; (intro w' g'; go_simp; first | done | with_reducible rfl); (simp only [Act.put, List.setIfInBounds_toArray, List.set_cons_zero, List.set_cons_succ])))
    refine TakeP.nil ?_
    refine wpAnyH_step (i := 11) (by kernel_rfl) (fuel' := 0) (by kernel_rfl) (by simp only [pickOps, List.getElem?_toArray, List.getElem?_cons_zero, List.getElem?_cons_succ]; rfl) (by rfl) ?_
    intro K hK
    have i2 := (row_at (l := [.int .i64 (2 * a.q + 1), .string { data := #[105, 110, 95, 116, 114, 97, 110, 115, 105, 116] }, .string p.acc, .int .i64 a.c, .int .i64 a.d, .int .i64 a.d]) h1) 3 _ rfl
    simp only [Nat.zero_add] at i2
    have j2 := row_free h1 3
    go_simp
    have S2 := RdE.set S1 hbx 3 (.int .i64 p.c)
    refine hK _ _ S2 ?_
    clear hK K
    have h2 := Go.heap_setCell_same (x1) b4 3 _ 50 (.int .i64 p.c) h1
    have hb2 := (Below.heap_setCell (x1) ⟨b4, 3, none⟩ (.int .i64 p.c) b2 hne).trans hb1
    have gg2 := Grew.set gg1 (p := ⟨b4, 3, none⟩) hb4 (.int .i64 p.c)
    simp only [List.setIfInBounds_toArray, List.set_cons_zero, List.set_cons_succ] at h2
    obtain ⟨w5, hw2⟩ : ∃ x, x = (x1).setCell ⟨b4, 3, none⟩ (.int .i64 p.c) := ⟨_, rfl⟩
    rw [← hw2] at S2 h2 hb2 gg2 ⊢
    clear hw2 i2 j2
    refine wpAnyH_done (by kernel_rfl) ?_ _
    have HB4 : Hid (w5.heap[b4]? = some (.cells #[.int .i64 (2 * a.q + 1), .string { data := #[105, 110, 95, 116, 114, 97, 110, 115, 105, 116] }, .string p.acc, .int .i64 p.c, .int .i64 a.d, .int .i64 a.d] 50)) := h2
    have HB2 := Lib.hid hb2
    have G5 := Lib.hid gg2
    clear h0 hb0 gg0 S0 h1 hb1 gg1 S1 h2 hb2 gg2 S2
    have hE := row_at (l := [.int .i64 (2 * a.q + 1), .string { data := #[105, 110, 95, 116, 114, 97, 110, 115, 105, 116] }, .string p.acc, .int .i64 p.c, .int .i64 a.d, .int .i64 a.d]) HB4.out
    have e0 := hE 0 _ rfl
    have e1 := hE 1 _ rfl
    have e2 := hE 2 _ rfl
    have e3 := hE 3 _ rfl
    have e4 := hE 4 _ rfl
    have e5 := hE 5 _ rfl
    simp only [Nat.zero_add] at e0 e1 e2 e3 e4 e5
    clear hE
    have hZ := row_at (l := [.int .i64 0, .string ⟨#[]⟩, .string ⟨#[]⟩, .int .i64 0, .int .i64 0, .int .i64 0]) HB2.out
    have y0 := hZ 0 _ rfl
    have y1 := hZ 1 _ rfl
    have y2 := hZ 2 _ rfl
    have y3 := hZ 3 _ rfl
    have y4 := hZ 4 _ rfl
    have y5 := hZ 5 _ rfl
    simp only [Nat.zero_add] at y0 y1 y2 y3 y4 y5
    have f0 := row_free HB2.out 0
    have f1 := row_free HB2.out 1
    have f2 := row_free HB2.out 2
    have f3 := row_free HB2.out 3
    have f4 := row_free HB2.out 4
    have f5 := row_free HB2.out 5
    clear hZ
    go_wp2_with fail
    refine bodyPost_ret (results_cell_row rfl _ _ b2 50 _ (0, 0) _ rfl (set6 HB2.out _ _ _ _ _ _) Try.underlying50 rfl (by kernel_rfl)) rfl ?_
    exact ⟨by rw [HV.out]; rfl, (((((G5.out.set hb2 _).set hb2 _).set hb2 _).set hb2 _).set hb2 _).set hb2 _⟩
  · have HV : Hid (answE p a = ⟨2 * a.q + 1, bank, p.acc, a.c, a.d, a.d⟩) := by unfold Hid answE; rw [if_neg (by omega), if_neg (by omega), if_pos hk]
    have k2 : (a.k == 2) = false := by rw [hk]; rfl
    have k3 : (a.k == 3) = false := by rw [hk]; rfl
    have k4 : (a.k == 4) = true := by rw [hk]; rfl
    have hA := a_cells0 HRA.out
    obtain ⟨c0, c1, c2, c3, c4⟩ := hA
    have hI := row_at (l := [.int .i64 (2 * a.q + 1), .string { data := #[] }, .string { data := #[] }, .int .i64 a.c, .int .i64 a.d, .int .i64 a.d]) HB40.out
    have i1 := hI 1 _ rfl
    have i2 := hI 2 _ rfl
    have i3 := hI 3 _ rfl
    simp only [Nat.zero_add] at i1 i2 i3
    have j1 := row_free HB40.out 1
    have j2 := row_free HB40.out 2
    have j3 := row_free HB40.out 3
    clear hI
    go_wp2_with fail
    clear c0 c1 c2 c3 c4 hk i1 i2 i3 j1 j2 j3
    refine wp_region_H (by kernel_rfl) (fun w' => RdE w' bx p) ?_
    refine wpAnyH_takes (fun _ _ _ _ _ h => h) HRE.out [0, 1, 2, 3] (fuel' := 3) (by kernel_rfl) (by kernel_rfl) (by simp only [pickOps, List.getElem?_toArray, List.getElem?_cons_zero, List.getElem?_cons_succ]; rfl) ?_
    repeat (first
      | (refine TakeP.pure (v := ?_) (by rfl) ?_ ?_; rotate_left; (intro w' g'; obtain ⟨d0, d1⟩ := g'; go_simp; first | done | with_reducible rfl); (simp only [Act.put, List.setIfInBounds_toArray, List.set_cons_zero, List.set_cons_succ])))
    refine TakeP.nil ?_
    obtain ⟨wd, hwd⟩ : ∃ x, x = w4.drew := ⟨_, rfl⟩
    rw [← hwd] at HB40d HB20d G40d HRE ⊢
    clear hwd
    refine wpAnyH_step (i := 4) (by kernel_rfl) (fuel' := 2) (by kernel_rfl) (by simp only [pickOps, List.getElem?_toArray, List.getElem?_cons_zero, List.getElem?_cons_succ]; rfl) (by rfl) ?_
    intro K hK
    have i0 := (row_at (l := [.int .i64 (2 * a.q + 1), .string { data := #[] }, .string { data := #[] }, .int .i64 a.c, .int .i64 a.d, .int .i64 a.d]) HB40d) 1 _ rfl
    simp only [Nat.zero_add] at i0
    have j0 := row_free HB40d 1
    go_simp
    have S0 := RdE.set HRE.out hbx 1 (.string { data := #[97, 116, 95, 98, 97, 110, 107] })
    refine hK _ _ S0 ?_
    clear hK K
    have h0 := Go.heap_setCell_same (wd) b4 1 _ 50 (.string { data := #[97, 116, 95, 98, 97, 110, 107] }) HB40d
    have hb0 := (Below.heap_setCell (wd) ⟨b4, 1, none⟩ (.string { data := #[97, 116, 95, 98, 97, 110, 107] }) b2 hne).trans HB20d
    have gg0 := Grew.set G40d (p := ⟨b4, 1, none⟩) hb4 (.string { data := #[97, 116, 95, 98, 97, 110, 107] })
    simp only [List.setIfInBounds_toArray, List.set_cons_zero, List.set_cons_succ] at h0
    obtain ⟨x0, hw0⟩ : ∃ x, x = (wd).setCell ⟨b4, 1, none⟩ (.string { data := #[97, 116, 95, 98, 97, 110, 107] }) := ⟨_, rfl⟩
    rw [← hw0] at S0 h0 hb0 gg0 ⊢
    clear hw0 i0 j0
    refine wpAnyH_takes (fun _ _ _ _ _ h => h) S0 [5] (fuel' := 1) (by kernel_rfl) (by kernel_rfl) (by simp only [pickOps, List.getElem?_toArray, List.getElem?_cons_zero, List.getElem?_cons_succ]; rfl) ?_
    repeat (first
      | (refine TakeP.pure (v := ?_) (by rfl) ?_ ?_; rotate_left; (intro w' g'; go_simp; first | done | with_reducible rfl); (simp only [Act.put, List.setIfInBounds_toArray, List.set_cons_zero, List.set_cons_succ])))
    refine TakeP.nil ?_
    refine wpAnyH_step (i := 6) (by kernel_rfl) (fuel' := 0) (by kernel_rfl) (by simp only [pickOps, List.getElem?_toArray, List.getElem?_cons_zero, List.getElem?_cons_succ]; rfl) (by rfl) ?_
    intro K hK
    have i1 := (row_at (l := [.int .i64 (2 * a.q + 1), .string { data := #[97, 116, 95, 98, 97, 110, 107] }, .string { data := #[] }, .int .i64 a.c, .int .i64 a.d, .int .i64 a.d]) h0) 2 _ rfl
    simp only [Nat.zero_add] at i1
    have j1 := row_free h0 2
    go_simp
    have S1 := RdE.set S0 hbx 2 (.string p.acc)
    refine hK _ _ S1 ?_
    clear hK K
    have h1 := Go.heap_setCell_same (x0) b4 2 _ 50 (.string p.acc) h0
    have hb1 := (Below.heap_setCell (x0) ⟨b4, 2, none⟩ (.string p.acc) b2 hne).trans hb0
    have gg1 := Grew.set gg0 (p := ⟨b4, 2, none⟩) hb4 (.string p.acc)
    simp only [List.setIfInBounds_toArray, List.set_cons_zero, List.set_cons_succ] at h1
    obtain ⟨w5, hw1⟩ : ∃ x, x = (x0).setCell ⟨b4, 2, none⟩ (.string p.acc) := ⟨_, rfl⟩
    rw [← hw1] at S1 h1 hb1 gg1 ⊢
    clear hw1 i1 j1
    refine wpAnyH_done (by kernel_rfl) ?_ _
    have HB4 : Hid (w5.heap[b4]? = some (.cells #[.int .i64 (2 * a.q + 1), .string { data := #[97, 116, 95, 98, 97, 110, 107] }, .string p.acc, .int .i64 a.c, .int .i64 a.d, .int .i64 a.d] 50)) := h1
    have HB2 := Lib.hid hb1
    have G5 := Lib.hid gg1
    clear h0 hb0 gg0 S0 h1 hb1 gg1 S1
    have hE := row_at (l := [.int .i64 (2 * a.q + 1), .string { data := #[97, 116, 95, 98, 97, 110, 107] }, .string p.acc, .int .i64 a.c, .int .i64 a.d, .int .i64 a.d]) HB4.out
    have e0 := hE 0 _ rfl
    have e1 := hE 1 _ rfl
    have e2 := hE 2 _ rfl
    have e3 := hE 3 _ rfl
    have e4 := hE 4 _ rfl
    have e5 := hE 5 _ rfl
    simp only [Nat.zero_add] at e0 e1 e2 e3 e4 e5
    clear hE
    have hZ := row_at (l := [.int .i64 0, .string ⟨#[]⟩, .string ⟨#[]⟩, .int .i64 0, .int .i64 0, .int .i64 0]) HB2.out
    have y0 := hZ 0 _ rfl
    have y1 := hZ 1 _ rfl
    have y2 := hZ 2 _ rfl
    have y3 := hZ 3 _ rfl
    have y4 := hZ 4 _ rfl
    have y5 := hZ 5 _ rfl
    simp only [Nat.zero_add] at y0 y1 y2 y3 y4 y5
    have f0 := row_free HB2.out 0
    have f1 := row_free HB2.out 1
    have f2 := row_free HB2.out 2
    have f3 := row_free HB2.out 3
    have f4 := row_free HB2.out 4
    have f5 := row_free HB2.out 5
    clear hZ
    go_wp2_with fail
    refine bodyPost_ret (results_cell_row rfl _ _ b2 50 _ (0, 0) _ rfl (set6 HB2.out _ _ _ _ _ _) Try.underlying50 rfl (by kernel_rfl)) rfl ?_
    exact ⟨by rw [HV.out]; rfl, (((((G5.out.set hb2 _).set hb2 _).set hb2 _).set hb2 _).set hb2 _).set hb2 _⟩
end Go.Proofs.Ytaocjobbfcfleaa
