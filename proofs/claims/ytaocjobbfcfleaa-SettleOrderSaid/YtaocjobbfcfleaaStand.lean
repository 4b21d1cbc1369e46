/-
  The standing that a tally gives: (*tally).standing.
-/
import Derived.Test.YtaocjobbfcfleaaTally
import Derived.Deep.CutBlock
namespace Go.Proofs.Ytaocjobbfcfleaa
open Go.RowKit Go.Proofs WageMem WageOrd WageRec WageMap WageReg WageSet

theorem size43 : (Try.prog.info? 43).map (·.size) = some 7 := by kernel_rfl
theorem dec_yes {p : Prop} [Decidable p] (h : p) : decide p = true := decide_eq_true h
theorem row_at {w : World} {b : Nat} {l : List Value} {t : TypeId} (h : w.heap[b]? = some (.cells l.toArray t (0, 0))) : w.rangeAt b 0 l := fun j u hu => by
  rw [cell_of_row w b (0 + j) _ t (0, 0) h, Nat.zero_add]
  simpa using hu
theorem row_free {w : World} {b : Nat} {cs : Array Value} {t : TypeId} (h : w.heap[b]? = some (.cells cs t (0, 0))) (j : Nat) : w.frozen? ⟨b, j, none⟩ = false := by simp [World.frozen?, h]
theorem grew_setRow {w w' : World} {g : Nat} (h : Grew w w') (hg : w.heap.size ≤ g) (cs : Array Value) : Grew w (w'.setRow g cs) := by
  refine ⟨h.os, h.tape, h.output, by rw [setRow_size]; exact h.size, fun k hk => ?_⟩
  exact (setRow_other w' g k cs (by omega)).trans (h.below.block k hk)
theorem set7 {w : World} {b : Nat} (h : w.heap[b]? = some (.cells #[.int .i64 0, .string { data := #[] }, .int .i64 0, .int .i64 0, .int .i64 0, .int .i64 0, .int .i64 0] 43)) (v0 v1 v2 v3 v4 v5 v6 : Value) : (((((((w.setCell ⟨b, 0, none⟩ v0).setCell ⟨b, 1, none⟩ v1).setCell ⟨b, 2, none⟩ v2).setCell ⟨b, 3, none⟩ v3).setCell ⟨b, 4, none⟩ v4).setCell ⟨b, 5, none⟩ v5).setCell ⟨b, 6, none⟩ v6).heap[b]? = some (.cells #[v0, v1, v2, v3, v4, v5, v6] 43) := by
  have h0 := Go.heap_setCell_same w b 0 _ 43 v0 h
  have h1 := Go.heap_setCell_same _ b 1 _ 43 v1 h0
  have h2 := Go.heap_setCell_same _ b 2 _ 43 v2 h1
  have h3 := Go.heap_setCell_same _ b 3 _ 43 v3 h2
  have h4 := Go.heap_setCell_same _ b 4 _ 43 v4 h3
  have h5 := Go.heap_setCell_same _ b 5 _ 43 v5 h4
  have h6 := Go.heap_setCell_same _ b 6 _ 43 v6 h5
  simpa using h6
theorem results_std {fn : Func} {p u : Tmp} (h : fn.results = #[.cell p 43, .tmp u]) (tmps : Array Value) (w : World) (b : Nat) (cs : Array Value) (hp : tmps.getD p undef = .pointer (some ⟨b, 0, none⟩)) (hb : w.heap[b]? = some (.cells cs 43 (0, 0))) (hs : cs.size = 7) :
    (results fn tmps).run Try.prog w = .ok (.tuple #[.agg cs, tmps.getD u undef]) w := by
  have hp' : tmps[p]?.getD undef = .pointer (some ⟨b, 0, none⟩) := by simpa using hp
  rw [results_cell_tmp h]
  simp [hp', asAddr, Result.andThen, run_loadVar_row w b 43 43 cs (0, 0) _ hb Try.underlying43 rfl (by rw [hs]; exact size43)]
theorem ret_pair {v : Value} {a b : Bool} (h : a = b) : Ending.returned (.tuple #[v, .bool a]) = .returned (.tuple #[v, .bool b]) := by rw [h]
/-- What (*tally).standing has when the state is known. -/
structure StSt (w w0 : World) (g k bp b4 z : Nat) (t : Tal) (p : Pay) (st : Int) : Prop where
  tal : w.rangeAt g (k * 4) (te t)
  pay : w.rangeAt bp 0 (pe p)
  res : w.heap[b4]? = some (.cells #[.int .i64 0, .string { data := #[] }, .int .i64 0, .int .i64 0, .int .i64 0, .int .i64 0, .int .i64 0] 43)
  cur : w.heap[z]? = some (.cells #[.int .i64 p.id, .string p.acc, .int .i64 p.c, .int .i64 p.d, .int .i64 st, .int .i64 t.pd, .int .i64 t.bk] 43)
  grew : Grew w0 w

/-- What the last statement reads. -/
def RdSt (w' : World) (g k bp z : Nat) (t : Tal) (p : Pay) : Prop := (w'.cell? ⟨g, k * 4, none⟩ = some (.int .i64 t.pd) ∧ w'.cell? ⟨g, k * 4 + 1, none⟩ = some (.int .i64 t.bk)) ∧ w'.cell? ⟨bp, 2, none⟩ = some (.int .i64 p.c) ∧ (w'.cell? ⟨z, 0, none⟩ = some (.int .i64 p.id) ∧ w'.cell? ⟨z, 1, none⟩ = some (.string p.acc) ∧ w'.cell? ⟨z, 2, none⟩ = some (.int .i64 p.c) ∧ w'.cell? ⟨z, 3, none⟩ = some (.int .i64 p.d) ∧ w'.cell? ⟨z, 4, none⟩ = some (.int .i64 (stOf t)) ∧ w'.cell? ⟨z, 5, none⟩ = some (.int .i64 t.pd) ∧ w'.cell? ⟨z, 6, none⟩ = some (.int .i64 t.bk))
theorem RdSt.set {w : World} {g k bp z : Nat} {t : Tal} {p : Pay} (h : RdSt w g k bp z t p) {b : Nat} (h1 : g ≠ b) (h2 : bp ≠ b) (h3 : z ≠ b) (cs : Array Value) : RdSt (w.setRow b cs) g k bp z t p := by
  obtain ⟨⟨d0, d1⟩, c2, e0, e1, e2, e3, e4, e5, e6⟩ := h
  exact ⟨⟨(cell_setRow_other _ _ _ _ h1).trans d0, (cell_setRow_other _ _ _ _ h1).trans d1⟩, (cell_setRow_other _ _ _ _ h2).trans c2, (cell_setRow_other _ _ _ _ h3).trans e0, (cell_setRow_other _ _ _ _ h3).trans e1, (cell_setRow_other _ _ _ _ h3).trans e2, (cell_setRow_other _ _ _ _ h3).trans e3, (cell_setRow_other _ _ _ _ h3).trans e4, (cell_setRow_other _ _ _ _ h3).trans e5, (cell_setRow_other _ _ _ _ h3).trans e6⟩
set_option maxRecDepth 100000 in
set_option maxHeartbeats 8000000 in
theorem stand_any (g k : Nat) (t : Tal) (p : Pay) (w : World) (hr : w.rangeAt g (k * 4) (te t)) : Calls Try.prog 61 #[.pointer (some ⟨g, k * 4, none⟩), pv p] w fun e w' => e = .returned (.tuple #[sv (staS p t), .bool (okT p t)]) ∧ Grew w w' := by
  show Calls Try.prog 61 #[.pointer (some ⟨g, k * 4, none⟩), .agg #[.int .i64 p.id, .string p.acc, .int .i64 p.c, .int .i64 p.d]] w _
  obtain ⟨bp, hbp⟩ : ∃ b, b = w.heap.size := ⟨_, rfl⟩
  obtain ⟨b4, hb4⟩ : ∃ b, b = w.heap.size + 1 := ⟨_, rfl⟩
  obtain ⟨w1, hw1⟩ : ∃ x, x = w.alloc (.cells #[.int .i64 p.id, .string p.acc, .int .i64 p.c, .int .i64 p.d] 27) := ⟨_, rfl⟩
  obtain ⟨w2, hw2⟩ : ∃ x, x = w1.alloc (.cells #[.int .i64 0, .string { data := #[] }, .int .i64 0, .int .i64 0, .int .i64 0, .int .i64 0, .int .i64 0] 43) := ⟨_, rfl⟩
  have g1 : Grew w w1 := by rw [hw1]; exact (Grew.refl w).alloc _
  have g12 : Grew w1 w2 := by rw [hw2]; exact (Grew.refl w1).alloc _
  have sz1 : w1.heap.size = w.heap.size + 1 := by rw [hw1]; simp
  have HP : Hid (w2.rangeAt bp 0 (pe p)) := by rw [hbp]; exact range_grew (by rw [hw1]; exact range_new w (pe p) 27) g12
  have HT : Hid (w2.rangeAt g (k * 4) (te t)) := range_grew hr (g1.trans g12)
  have H4 : Hid (w2.heap[b4]? = some (.cells #[.int .i64 0, .string { data := #[] }, .int .i64 0, .int .i64 0, .int .i64 0, .int .i64 0, .int .i64 0] 43)) := by unfold Hid; rw [hb4, ← sz1, hw2]; exact heap_alloc_new w1 _
  have G2 : Hid (Grew w w2) := g1.trans g12
  have sz2 : w2.heap.size = w1.heap.size + 1 := by rw [hw2]; simp
  have ltp : bp < w2.heap.size := by omega
  have lt4 : b4 < w2.heap.size := by omega
  have hwb4 : w.heap.size ≤ b4 := by omega
  have hpb4 : bp ≠ b4 := by omega
  have hgb4 : g ≠ b4 := by have : g < w.heap.size := World.block_lt_of_cell? _ _ (t_cells hr).1; omega
  have HTW := Lib.hid hr
  clear hr g1 g12
  go_enter Try.func61, Try.ntmps61
  go_wp2_with fail
  rw [← hw1]
  rw [← hw2]
  rw [← hb4]
  rw [← hbp]
  clear hw1 hw2 hbp hb4 sz1
  have hC : ∀ w', Grew w2.drew w' → (w'.cell? ⟨g, k * 4, none⟩ = some (.int .i64 t.pd) ∧ w'.cell? ⟨g, k * 4 + 1, none⟩ = some (.int .i64 t.bk) ∧ w'.cell? ⟨g, k * 4 + 2, none⟩ = some (.int .i64 t.tk) ∧ w'.cell? ⟨g, k * 4 + 3, none⟩ = some (.int .i64 t.rf)) ∧ w'.cell? ⟨bp, 0, none⟩ = some (.int .i64 p.id) ∧ w'.cell? ⟨bp, 1, none⟩ = some (.string p.acc) ∧ w'.cell? ⟨bp, 2, none⟩ = some (.int .i64 p.c) ∧ w'.cell? ⟨bp, 3, none⟩ = some (.int .i64 p.d) := fun w' g' =>
    ⟨t_cells (range_grew HT.out ((Grew.refl w2).drew.trans g')), p_cells0 (range_grew HP.out ((Grew.refl w2).drew.trans g'))⟩
  refine wp_region_G (G := Grew) (by kernel_rfl) Grew.refl 11 ?_
  refine wpAnyG_takes Grew.refl (fun _ _ _ => Grew.trans) (fun _ _ _ _ _ h => h) [0, 1, 2, 3, 4, 5, 6, 7, 8, 9] (fuel' := 2) (by kernel_rfl) (by kernel_rfl) (by simp only [pickOps, List.getElem?_toArray, List.getElem?_cons_zero, List.getElem?_cons_succ]; rfl) ?_
  repeat (first
    | (refine TakeAll.pure (v := ?_) (by rfl) ?_ ?_; rotate_left; (intro w' g'; obtain ⟨⟨d0, d1, d2, d3⟩, c0, c1, c2, c3⟩ := hC w' g'; go_simp; first | done | with_reducible rfl); (simp only [Act.put, List.setIfInBounds_toArray, List.set_cons_zero, List.set_cons_succ]))
    | (refine TakeAll.skip (by rfl) ?_; (simp only [Act.put, List.setIfInBounds_toArray, List.set_cons_zero, List.set_cons_succ])))
  refine TakeAll.nil ?_
  refine wpAnyG_step (i := 10) (by kernel_rfl) (fuel' := 1) (by kernel_rfl) (by simp only [pickOps, List.getElem?_toArray, List.getElem?_cons_zero, List.getElem?_cons_succ]; rfl) rfl ?_
  intro w3 g3 K hK
  go_simp
  have ga := (Grew.refl w3).alloc (.cells #[.int .i64 0, .string { data := #[] }, .int .i64 0, .int .i64 0, .int .i64 0, .int .i64 0, .int .i64 0] 43)
  refine hK _ _ ga ?_
  clear hK K
  have H6 := Lib.hid (heap_alloc_new w3 (.cells #[.int .i64 0, .string { data := #[] }, .int .i64 0, .int .i64 0, .int .i64 0, .int .i64 0, .int .i64 0] 43))
  obtain ⟨w4, hw4⟩ : ∃ x, x = w3.alloc (.cells #[.int .i64 0, .string { data := #[] }, .int .i64 0, .int .i64 0, .int .i64 0, .int .i64 0, .int .i64 0] 43) := ⟨_, rfl⟩
  rw [← hw4] at H6 ga ⊢
  obtain ⟨z, hz⟩ : ∃ z, z = w3.heap.size := ⟨_, rfl⟩
  rw [← hz] at H6 ⊢
  have hsz : w2.heap.size ≤ z := by rw [hz]; exact g3.le
  clear hw4 hz
  have G24 : Hid (Grew w2 w4) := ((Grew.refl w2).drew.trans g3).trans ga
  clear g3 ga hC
  refine wpAnyG_end (by kernel_rfl) (fuel' := 0) (by kernel_rfl) (by simp only [pickOps, List.getElem?_toArray, List.getElem?_cons_zero, List.getElem?_cons_succ]; rfl) rfl ?_
  intro w5 g5 K hK
  refine wp_store_row 43 (.tmp 6) (.tmp 16) rfl z #[.int .i64 p.id, .string p.acc, .int .i64 p.c, .int .i64 p.d, .int .i64 1, .int .i64 t.pd, .int .i64 t.bk] rfl rfl 43 _ (g5.block H6.out) size43 rfl (by simp [Value.oneCell']) ?_
  refine hK _ _ ?_
  clear hK K
  have H6' := Lib.hid (setRow_heap w5 z _ #[.int .i64 p.id, .string p.acc, .int .i64 p.c, .int .i64 p.d, .int .i64 1, .int .i64 t.pd, .int .i64 t.bk] 43 (0, 0) (g5.block H6.out))
  have G25 : Grew w2 (w5.setRow z #[.int .i64 p.id, .string p.acc, .int .i64 p.c, .int .i64 p.d, .int .i64 1, .int .i64 t.pd, .int .i64 t.bk]) := grew_setRow (G24.out.trans g5) hsz _
  obtain ⟨wl, hwl⟩ : ∃ x, x = w5.setRow z #[.int .i64 p.id, .string p.acc, .int .i64 p.c, .int .i64 p.d, .int .i64 1, .int .i64 t.pd, .int .i64 t.bk] := ⟨_, rfl⟩
  rw [← hwl] at H6' G25 ⊢
  clear hwl H6 G24 g5
  simp only [Act.put]
  refine wpAny_rest (fun _ _ _ _ _ h => h) [] (by kernel_rfl) (by kernel_rfl) (by kernel_rfl) rfl (TakeAll.nil ?_)
  have I0 : Hid (StSt wl w g k bp b4 z t p 1) := ⟨range_grew HT.out G25, range_grew HP.out G25, G25.block H4.out, H6'.out, G2.out.trans G25⟩
  have hne : b4 ≠ z ∧ bp ≠ z ∧ w.heap.size ≤ z ∧ w.heap.size ≤ b4 ∧ bp ≠ b4 ∧ g ≠ b4 := ⟨by omega, by omega, by have := G2.out.le; omega, hwb4, hpb4, hgb4⟩
  have HNE := Lib.hid hne
  clear H6' G25 HT HP H4 G2 hsz ltp lt4 sz2 hne
  go_upto_block 0 with (fail)
  go_cut [6] from 7 (fun s6 wc => s6 = .pointer (some ⟨z, 0, none⟩) ∧ Hid (StSt wc w g k bp b4 z t p (stOf t)))
  case first =>
    have hg : g < w.heap.size := World.block_lt_of_cell? _ _ (t_cells HTW.out).1
    have hst : ∀ v, StSt (wl.setCell ⟨z, 4, none⟩ (.int .i64 v)) w g k bp b4 z t p v := fun v =>
      ⟨fun j u hu => (World.cell?_setCell_other _ _ _ _ (fun e => by injection e with e; have := HNE.out.2.2.1; omega)).trans (I0.out.tal j u hu),
       fun j u hu => (World.cell?_setCell_other _ _ _ _ (fun e => by injection e with e; exact HNE.out.2.1 e.symm)).trans (I0.out.pay j u hu),
       (Below.heap_setCell _ _ _ _ HNE.out.1).trans I0.out.res,
       by have := Go.heap_setCell_same wl z 4 _ 43 (.int .i64 v) I0.out.cur; simpa using this,
       I0.out.grew.set HNE.out.2.2.1 _⟩
    have HST := Lib.hid hst
    clear hst
    obtain ⟨d0, d1, d2, d3⟩ := t_cells I0.out.tal
    have e4 := (row_at (l := [.int .i64 p.id, .string p.acc, .int .i64 p.c, .int .i64 p.d, .int .i64 1, .int .i64 t.pd, .int .i64 t.bk]) I0.out.cur) 4 _ rfl
    simp only [Nat.zero_add] at e4
    have fz := row_free I0.out.cur 4
    by_cases z1 : 0 < t.rf
    · have q1 : decide (0 < t.rf) = true := decide_eq_true z1
      have HS : Hid (stOf t = 4) := by unfold Hid stOf; rw [if_pos z1]
      clear z1
      go_wp2_with fail
      go_meet
      case rel => exact ⟨rfl, by rw [HS.out]; exact HST.out 4⟩
    · have q1 : decide (0 < t.rf) = false := decide_eq_false z1
      by_cases z2 : 0 < t.bk
      · have q2 : decide (0 < t.bk) = true := decide_eq_true z2
        have HS : Hid (stOf t = 5) := by unfold Hid stOf; rw [if_neg z1, if_pos z2]
        clear z1 z2
        go_wp2_with fail
        go_meet
        case rel => exact ⟨rfl, by rw [HS.out]; exact HST.out 5⟩
      · have q2 : decide (0 < t.bk) = false := decide_eq_false z2
        by_cases z3 : 0 < t.pd
        · have q3 : decide (0 < t.pd) = true := decide_eq_true z3
          have HS : Hid (stOf t = 3) := by unfold Hid stOf; rw [if_neg z1, if_neg z2, if_pos z3]
          clear z1 z2 z3
          go_wp2_with fail
          go_meet
          case rel => exact ⟨rfl, by rw [HS.out]; exact HST.out 3⟩
        · have q3 : decide (0 < t.pd) = false := decide_eq_false z3
          by_cases z4 : 0 < t.tk
          · have q4 : decide (0 < t.tk) = true := decide_eq_true z4
            have HS : Hid (stOf t = 2) := by unfold Hid stOf; rw [if_neg z1, if_neg z2, if_neg z3, if_pos z4]
            clear z1 z2 z3 z4
            go_wp2_with fail
            go_meet
            case rel => exact ⟨rfl, by rw [HS.out]; exact HST.out 2⟩
          · have q4 : decide (0 < t.tk) = false := decide_eq_false z4
            have HS : Hid (stOf t = 1) := by unfold Hid stOf; rw [if_neg z1, if_neg z2, if_neg z3, if_neg z4]
            clear z1 z2 z3 z4
            go_wp2_with fail
            go_meet
            case rel => exact ⟨rfl, by rw [HS.out]; exact I0.out⟩
  case rest =>
    obtain ⟨rfl, I⟩ := hcut
    clear I0
    obtain ⟨d0, d1, d2, d3⟩ := t_cells I.out.tal
    have hE : wc.cell? ⟨z, 0, none⟩ = some (.int .i64 p.id) ∧ wc.cell? ⟨z, 1, none⟩ = some (.string p.acc) ∧ wc.cell? ⟨z, 2, none⟩ = some (.int .i64 p.c) ∧ wc.cell? ⟨z, 3, none⟩ = some (.int .i64 p.d) ∧ wc.cell? ⟨z, 4, none⟩ = some (.int .i64 (stOf t)) ∧ wc.cell? ⟨z, 5, none⟩ = some (.int .i64 t.pd) ∧ wc.cell? ⟨z, 6, none⟩ = some (.int .i64 t.bk) := s_cells0 (s := staS p t) (row_at (l := se (staS p t)) I.out.cur)
    obtain ⟨e0, e1, e2, e3, e4, e5, e6⟩ := hE
    have hZ := row_at (l := [.int .i64 0, .string ⟨#[]⟩, .int .i64 0, .int .i64 0, .int .i64 0, .int .i64 0, .int .i64 0]) I.out.res
    have y0 := hZ 0 _ rfl
    have y1 := hZ 1 _ rfl
    have y2 := hZ 2 _ rfl
    have y3 := hZ 3 _ rfl
    have y4 := hZ 4 _ rfl
    have y5 := hZ 5 _ rfl
    have y6 := hZ 6 _ rfl
    simp only [Nat.zero_add] at y0 y1 y2 y3 y4 y5 y6
    have f0 := row_free I.out.res 0
    have f1 := row_free I.out.res 1
    have f2 := row_free I.out.res 2
    have f3 := row_free I.out.res 3
    have f4 := row_free I.out.res 4
    have f5 := row_free I.out.res 5
    have f6 := row_free I.out.res 6
    clear hZ
    by_cases z1 : 1 < t.rf
    · have q1 : decide (1 < t.rf) = true := decide_eq_true z1
      have HV : Hid (okT p t = false) := by unfold Hid okT; rw [q1]; rfl
      clear z1
      go_wp2_with fail
      refine bodyPost_ret (results_std rfl _ _ b4 _ rfl (set7 I.out.res _ _ _ _ _ _ _) rfl) rfl ?_
      exact ⟨ret_pair HV.out.symm, ((((((I.out.grew.set HNE.out.2.2.2.1 _).set HNE.out.2.2.2.1 _).set HNE.out.2.2.2.1 _).set HNE.out.2.2.2.1 _).set HNE.out.2.2.2.1 _).set HNE.out.2.2.2.1 _).set HNE.out.2.2.2.1 _⟩
    · have q1 : decide (1 < t.rf) = false := decide_eq_false z1
      by_cases z2 : 0 < t.rf
      · have q2 : decide (0 < t.rf) = true := decide_eq_true z2
        by_cases z5 : 0 < t.pd
        · have q5 : decide (0 < t.pd) = true := decide_eq_true z5
          have HV : Hid (okT p t = false) := by unfold Hid okT; rw [q1, q2, q5]; rfl
          clear z1 z2 z5
          go_wp2_with fail
          refine bodyPost_ret (results_std rfl _ _ b4 _ rfl (set7 I.out.res _ _ _ _ _ _ _) rfl) rfl ?_
          exact ⟨ret_pair HV.out.symm, ((((((I.out.grew.set HNE.out.2.2.2.1 _).set HNE.out.2.2.2.1 _).set HNE.out.2.2.2.1 _).set HNE.out.2.2.2.1 _).set HNE.out.2.2.2.1 _).set HNE.out.2.2.2.1 _).set HNE.out.2.2.2.1 _⟩
        · have q5 : decide (0 < t.pd) = false := decide_eq_false z5
          have HOK : Hid ((decide (1 < t.rf) || (decide (0 < t.rf) && decide (0 < t.pd))) = false) := by unfold Hid; rw [q1, q2, q5]; rfl
          clear z1 z2 z5
          have HC : Hid (RdSt wc.drew g k bp z t p) := by
            have gg : Grew wc wc.drew := (Grew.refl wc).drew
            exact ⟨⟨gg.cell d0, gg.cell d1⟩, (p_cells0 (range_grew I.out.pay gg)).2.2.1, gg.cell e0, gg.cell e1, gg.cell e2, gg.cell e3, gg.cell e4, gg.cell e5, gg.cell e6⟩
          go_upto_region 12 with (fail)
          clear d2 d3 y0 y1 y2 y3 y4 y5 y6 f0 f1 f2 f3 f4 f5 f6
          by_cases z3 : t.bk ≤ t.pd
          · have q3 : decide (t.bk ≤ t.pd) = true := decide_eq_true z3
            by_cases z4 : t.pd ≤ p.c
            · have q4 : decide (t.pd ≤ p.c) = true := decide_eq_true z4
              have HV : Hid (okT p t = true) := by unfold Hid okT; rw [HOK.out, q3, q4]; rfl
              clear z3 z4
              clear d0 d1 e0 e1 e2 e3 e4 e5 e6
              refine wp_region_H (by kernel_rfl) (fun w' => RdSt w' g k bp z t p) ?_
              refine wpAnyH_takes (fun _ _ _ _ _ h => h) HC.out [0, 1, 2, 3, 4, 5, 6, 7, 8, 9, 10, 11, 12, 13, 14, 15, 16, 17, 18] (fuel' := 2) (by kernel_rfl) (by kernel_rfl) (by simp only [pickOps, List.getElem?_toArray, List.getElem?_cons_zero, List.getElem?_cons_succ]; rfl) ?_
              repeat (first
                | (refine TakeP.pure (v := ?_) (by rfl) ?_ ?_; rotate_left; (intro w' g'; obtain ⟨⟨d0, d1⟩, c2, e0, e1, e2, e3, e4, e5, e6⟩ := g'; go_simp; first | done | with_reducible rfl); (simp only [Act.put, List.setIfInBounds_toArray, List.set_cons_zero, List.set_cons_succ]))
                | (refine TakeP.skip (by rfl) ?_; (simp only [Act.put, List.setIfInBounds_toArray, List.set_cons_zero, List.set_cons_succ])))
              refine TakeP.nil ?_
              have H4 : Hid (wc.drew.heap[b4]? = _) := I.out.res
              refine wpAnyH_step (i := 19) (by kernel_rfl) (fuel' := 1) (by kernel_rfl) (by simp only [pickOps, List.getElem?_toArray, List.getElem?_cons_zero, List.getElem?_cons_succ]; rfl) (by rfl) ?_
              intro K hK
              refine wp_store_row 43 (.tmp 4) (.tmp 65) rfl b4 #[.int .i64 p.id, .string p.acc, .int .i64 p.c, .int .i64 p.d, .int .i64 (stOf t), .int .i64 t.pd, .int .i64 t.bk] rfl rfl 43 _ H4.out size43 rfl (by simp [Value.oneCell']) ?_
              have HC2 := Lib.hid (HC.out.set HNE.out.2.2.2.2.2 HNE.out.2.2.2.2.1 (Ne.symm HNE.out.1) #[.int .i64 p.id, .string p.acc, .int .i64 p.c, .int .i64 p.d, .int .i64 (stOf t), .int .i64 t.pd, .int .i64 t.bk])
              refine hK _ _ HC2.out ?_
              clear hK K
              have H8 := Lib.hid (setRow_heap wc.drew b4 _ #[.int .i64 p.id, .string p.acc, .int .i64 p.c, .int .i64 p.d, .int .i64 (stOf t), .int .i64 t.pd, .int .i64 t.bk] 43 (0, 0) H4.out)
              have G8 : Grew w (wc.drew.setRow b4 #[.int .i64 p.id, .string p.acc, .int .i64 p.c, .int .i64 p.d, .int .i64 (stOf t), .int .i64 t.pd, .int .i64 t.bk]) := grew_setRow I.out.grew.drew HNE.out.2.2.2.1 _
              simp only [Act.put]
              refine wpAnyH_takes (fun _ _ _ _ _ h => h) HC2.out [20] (fuel' := 0) (by kernel_rfl) (by kernel_rfl) (by simp only [pickOps, List.getElem?_toArray, List.getElem?_cons_zero, List.getElem?_cons_succ]; rfl) ?_
              repeat (refine TakeP.pure (v := ?_) (by rfl) ?_ ?_; rotate_left; (intro w' g'; go_simp; first | done | with_reducible rfl); (simp only [Act.put, List.setIfInBounds_toArray, List.set_cons_zero, List.set_cons_succ]))
              refine TakeP.nil ?_
              refine wpAnyH_done (by kernel_rfl) ?_ _
              clear HC HC2 H4
              go_wp2_with fail
              refine bodyPost_ret (results_std rfl _ _ b4 _ rfl H8.out rfl) rfl ?_
              exact ⟨ret_pair HV.out.symm, G8⟩
            · have q4 : decide (t.pd ≤ p.c) = false := decide_eq_false z4
              have HV : Hid (okT p t = false) := by unfold Hid okT; rw [q4, Bool.and_false]
              clear z3 z4
              clear d0 d1 e0 e1 e2 e3 e4 e5 e6
              refine wp_region_H (by kernel_rfl) (fun w' => RdSt w' g k bp z t p) ?_
              refine wpAnyH_takes (fun _ _ _ _ _ h => h) HC.out [0, 1, 2, 3, 4, 5, 6, 7, 8, 9, 10, 11, 12, 13, 14, 15, 16, 17, 18] (fuel' := 2) (by kernel_rfl) (by kernel_rfl) (by simp only [pickOps, List.getElem?_toArray, List.getElem?_cons_zero, List.getElem?_cons_succ]; rfl) ?_
              repeat (first
                | (refine TakeP.pure (v := ?_) (by rfl) ?_ ?_; rotate_left; (intro w' g'; obtain ⟨⟨d0, d1⟩, c2, e0, e1, e2, e3, e4, e5, e6⟩ := g'; go_simp; first | done | with_reducible rfl); (simp only [Act.put, List.setIfInBounds_toArray, List.set_cons_zero, List.set_cons_succ]))
                | (refine TakeP.skip (by rfl) ?_; (simp only [Act.put, List.setIfInBounds_toArray, List.set_cons_zero, List.set_cons_succ])))
              refine TakeP.nil ?_
              have H4 : Hid (wc.drew.heap[b4]? = _) := I.out.res
              refine wpAnyH_step (i := 19) (by kernel_rfl) (fuel' := 1) (by kernel_rfl) (by simp only [pickOps, List.getElem?_toArray, List.getElem?_cons_zero, List.getElem?_cons_succ]; rfl) (by rfl) ?_
              intro K hK
              refine wp_store_row 43 (.tmp 4) (.tmp 65) rfl b4 #[.int .i64 p.id, .string p.acc, .int .i64 p.c, .int .i64 p.d, .int .i64 (stOf t), .int .i64 t.pd, .int .i64 t.bk] rfl rfl 43 _ H4.out size43 rfl (by simp [Value.oneCell']) ?_
              have HC2 := Lib.hid (HC.out.set HNE.out.2.2.2.2.2 HNE.out.2.2.2.2.1 (Ne.symm HNE.out.1) #[.int .i64 p.id, .string p.acc, .int .i64 p.c, .int .i64 p.d, .int .i64 (stOf t), .int .i64 t.pd, .int .i64 t.bk])
              refine hK _ _ HC2.out ?_
              clear hK K
              have H8 := Lib.hid (setRow_heap wc.drew b4 _ #[.int .i64 p.id, .string p.acc, .int .i64 p.c, .int .i64 p.d, .int .i64 (stOf t), .int .i64 t.pd, .int .i64 t.bk] 43 (0, 0) H4.out)
              have G8 : Grew w (wc.drew.setRow b4 #[.int .i64 p.id, .string p.acc, .int .i64 p.c, .int .i64 p.d, .int .i64 (stOf t), .int .i64 t.pd, .int .i64 t.bk]) := grew_setRow I.out.grew.drew HNE.out.2.2.2.1 _
              simp only [Act.put]
              refine wpAnyH_takes (fun _ _ _ _ _ h => h) HC2.out [20] (fuel' := 0) (by kernel_rfl) (by kernel_rfl) (by simp only [pickOps, List.getElem?_toArray, List.getElem?_cons_zero, List.getElem?_cons_succ]; rfl) ?_
              repeat (refine TakeP.pure (v := ?_) (by rfl) ?_ ?_; rotate_left; (intro w' g'; go_simp; first | done | with_reducible rfl); (simp only [Act.put, List.setIfInBounds_toArray, List.set_cons_zero, List.set_cons_succ]))
              refine TakeP.nil ?_
              refine wpAnyH_done (by kernel_rfl) ?_ _
              clear HC HC2 H4
              go_wp2_with fail
              refine bodyPost_ret (results_std rfl _ _ b4 _ rfl H8.out rfl) rfl ?_
              exact ⟨ret_pair HV.out.symm, G8⟩
          · have q3 : decide (t.bk ≤ t.pd) = false := decide_eq_false z3
            have HV : Hid (okT p t = false) := by unfold Hid okT; rw [q3, Bool.and_false, Bool.false_and]
            clear z3
            clear d0 d1 e0 e1 e2 e3 e4 e5 e6
            refine wp_region_H (by kernel_rfl) (fun w' => RdSt w' g k bp z t p) ?_
            refine wpAnyH_takes (fun _ _ _ _ _ h => h) HC.out [0, 1, 2, 3, 4, 5, 6, 7, 8, 9, 10, 11, 12, 13, 14, 15, 16, 17, 18] (fuel' := 2) (by kernel_rfl) (by kernel_rfl) (by simp only [pickOps, List.getElem?_toArray, List.getElem?_cons_zero, List.getElem?_cons_succ]; rfl) ?_
            repeat (first
              | (refine TakeP.pure (v := ?_) (by rfl) ?_ ?_; rotate_left; (intro w' g'; obtain ⟨⟨d0, d1⟩, c2, e0, e1, e2, e3, e4, e5, e6⟩ := g'; go_simp; first | done | with_reducible rfl); (simp only [Act.put, List.setIfInBounds_toArray, List.set_cons_zero, List.set_cons_succ]))
              | (refine TakeP.skip (by rfl) ?_; (simp only [Act.put, List.setIfInBounds_toArray, List.set_cons_zero, List.set_cons_succ])))
            refine TakeP.nil ?_
            have H4 : Hid (wc.drew.heap[b4]? = _) := I.out.res
            refine wpAnyH_step (i := 19) (by kernel_rfl) (fuel' := 1) (by kernel_rfl) (by simp only [pickOps, List.getElem?_toArray, List.getElem?_cons_zero, List.getElem?_cons_succ]; rfl) (by rfl) ?_
            intro K hK
            refine wp_store_row 43 (.tmp 4) (.tmp 65) rfl b4 #[.int .i64 p.id, .string p.acc, .int .i64 p.c, .int .i64 p.d, .int .i64 (stOf t), .int .i64 t.pd, .int .i64 t.bk] rfl rfl 43 _ H4.out size43 rfl (by simp [Value.oneCell']) ?_
            have HC2 := Lib.hid (HC.out.set HNE.out.2.2.2.2.2 HNE.out.2.2.2.2.1 (Ne.symm HNE.out.1) #[.int .i64 p.id, .string p.acc, .int .i64 p.c, .int .i64 p.d, .int .i64 (stOf t), .int .i64 t.pd, .int .i64 t.bk])
            refine hK _ _ HC2.out ?_
            clear hK K
            have H8 := Lib.hid (setRow_heap wc.drew b4 _ #[.int .i64 p.id, .string p.acc, .int .i64 p.c, .int .i64 p.d, .int .i64 (stOf t), .int .i64 t.pd, .int .i64 t.bk] 43 (0, 0) H4.out)
            have G8 : Grew w (wc.drew.setRow b4 #[.int .i64 p.id, .string p.acc, .int .i64 p.c, .int .i64 p.d, .int .i64 (stOf t), .int .i64 t.pd, .int .i64 t.bk]) := grew_setRow I.out.grew.drew HNE.out.2.2.2.1 _
            simp only [Act.put]
            refine wpAnyH_takes (fun _ _ _ _ _ h => h) HC2.out [20] (fuel' := 0) (by kernel_rfl) (by kernel_rfl) (by simp only [pickOps, List.getElem?_toArray, List.getElem?_cons_zero, List.getElem?_cons_succ]; rfl) ?_
            repeat (refine TakeP.pure (v := ?_) (by rfl) ?_ ?_; rotate_left; (intro w' g'; go_simp; first | done | with_reducible rfl); (simp only [Act.put, List.setIfInBounds_toArray, List.set_cons_zero, List.set_cons_succ]))
            refine TakeP.nil ?_
            refine wpAnyH_done (by kernel_rfl) ?_ _
            clear HC HC2 H4
            go_wp2_with fail
            refine bodyPost_ret (results_std rfl _ _ b4 _ rfl H8.out rfl) rfl ?_
            exact ⟨ret_pair HV.out.symm, G8⟩
      · have q2 : decide (0 < t.rf) = false := decide_eq_false z2
        have HOK : Hid ((decide (1 < t.rf) || (decide (0 < t.rf) && decide (0 < t.pd))) = false) := by unfold Hid; rw [q1, q2]; rfl
        clear z1 z2
        have HC : Hid (RdSt wc.drew g k bp z t p) := by
          have gg : Grew wc wc.drew := (Grew.refl wc).drew
          exact ⟨⟨gg.cell d0, gg.cell d1⟩, (p_cells0 (range_grew I.out.pay gg)).2.2.1, gg.cell e0, gg.cell e1, gg.cell e2, gg.cell e3, gg.cell e4, gg.cell e5, gg.cell e6⟩
        go_upto_region 12 with (fail)
        clear d2 d3 y0 y1 y2 y3 y4 y5 y6 f0 f1 f2 f3 f4 f5 f6
        by_cases z3 : t.bk ≤ t.pd
        · have q3 : decide (t.bk ≤ t.pd) = true := decide_eq_true z3
          by_cases z4 : t.pd ≤ p.c
          · have q4 : decide (t.pd ≤ p.c) = true := decide_eq_true z4
            have HV : Hid (okT p t = true) := by unfold Hid okT; rw [HOK.out, q3, q4]; rfl
            clear z3 z4
            clear d0 d1 e0 e1 e2 e3 e4 e5 e6
            refine wp_region_H (by kernel_rfl) (fun w' => RdSt w' g k bp z t p) ?_
            refine wpAnyH_takes (fun _ _ _ _ _ h => h) HC.out [0, 1, 2, 3, 4, 5, 6, 7, 8, 9, 10, 11, 12, 13, 14, 15, 16, 17, 18] (fuel' := 2) (by kernel_rfl) (by kernel_rfl) (by simp only [pickOps, List.getElem?_toArray, List.getElem?_cons_zero, List.getElem?_cons_succ]; rfl) ?_
            repeat (first
              | (refine TakeP.pure (v := ?_) (by rfl) ?_ ?_; rotate_left; (intro w' g'; obtain ⟨⟨d0, d1⟩, c2, e0, e1, e2, e3, e4, e5, e6⟩ := g'; go_simp; first | done | with_reducible rfl); (simp only [Act.put, List.setIfInBounds_toArray, List.set_cons_zero, List.set_cons_succ]))
              | (refine TakeP.skip (by rfl) ?_; (simp only [Act.put, List.setIfInBounds_toArray, List.set_cons_zero, List.set_cons_succ])))
            refine TakeP.nil ?_
            have H4 : Hid (wc.drew.heap[b4]? = _) := I.out.res
            refine wpAnyH_step (i := 19) (by kernel_rfl) (fuel' := 1) (by kernel_rfl) (by simp only [pickOps, List.getElem?_toArray, List.getElem?_cons_zero, List.getElem?_cons_succ]; rfl) (by rfl) ?_
            intro K hK
            refine wp_store_row 43 (.tmp 4) (.tmp 65) rfl b4 #[.int .i64 p.id, .string p.acc, .int .i64 p.c, .int .i64 p.d, .int .i64 (stOf t), .int .i64 t.pd, .int .i64 t.bk] rfl rfl 43 _ H4.out size43 rfl (by simp [Value.oneCell']) ?_
            have HC2 := Lib.hid (HC.out.set HNE.out.2.2.2.2.2 HNE.out.2.2.2.2.1 (Ne.symm HNE.out.1) #[.int .i64 p.id, .string p.acc, .int .i64 p.c, .int .i64 p.d, .int .i64 (stOf t), .int .i64 t.pd, .int .i64 t.bk])
            refine hK _ _ HC2.out ?_
            clear hK K
            have H8 := Lib.hid (setRow_heap wc.drew b4 _ #[.int .i64 p.id, .string p.acc, .int .i64 p.c, .int .i64 p.d, .int .i64 (stOf t), .int .i64 t.pd, .int .i64 t.bk] 43 (0, 0) H4.out)
            have G8 : Grew w (wc.drew.setRow b4 #[.int .i64 p.id, .string p.acc, .int .i64 p.c, .int .i64 p.d, .int .i64 (stOf t), .int .i64 t.pd, .int .i64 t.bk]) := grew_setRow I.out.grew.drew HNE.out.2.2.2.1 _
            simp only [Act.put]
            refine wpAnyH_takes (fun _ _ _ _ _ h => h) HC2.out [20] (fuel' := 0) (by kernel_rfl) (by kernel_rfl) (by simp only [pickOps, List.getElem?_toArray, List.getElem?_cons_zero, List.getElem?_cons_succ]; rfl) ?_
            repeat (refine TakeP.pure (v := ?_) (by rfl) ?_ ?_; rotate_left; (intro w' g'; go_simp; first | done | with_reducible rfl); (simp only [Act.put, List.setIfInBounds_toArray, List.set_cons_zero, List.set_cons_succ]))
            refine TakeP.nil ?_
            refine wpAnyH_done (by kernel_rfl) ?_ _
            clear HC HC2 H4
            go_wp2_with fail
            refine bodyPost_ret (results_std rfl _ _ b4 _ rfl H8.out rfl) rfl ?_
            exact ⟨ret_pair HV.out.symm, G8⟩
          · have q4 : decide (t.pd ≤ p.c) = false := decide_eq_false z4
            have HV : Hid (okT p t = false) := by unfold Hid okT; rw [q4, Bool.and_false]
            clear z3 z4
            clear d0 d1 e0 e1 e2 e3 e4 e5 e6
            refine wp_region_H (by kernel_rfl) (fun w' => RdSt w' g k bp z t p) ?_
            refine wpAnyH_takes (fun _ _ _ _ _ h => h) HC.out [0, 1, 2, 3, 4, 5, 6, 7, 8, 9, 10, 11, 12, 13, 14, 15, 16, 17, 18] (fuel' := 2) (by kernel_rfl) (by kernel_rfl) (by simp only [pickOps, List.getElem?_toArray, List.getElem?_cons_zero, List.getElem?_cons_succ]; rfl) ?_
            repeat (first
              | (refine TakeP.pure (v := ?_) (by rfl) ?_ ?_; rotate_left; (intro w' g'; obtain ⟨⟨d0, d1⟩, c2, e0, e1, e2, e3, e4, e5, e6⟩ := g'; go_simp; first | done | with_reducible rfl); (simp only [Act.put, List.setIfInBounds_toArray, List.set_cons_zero, List.set_cons_succ]))
              | (refine TakeP.skip (by rfl) ?_; (simp only [Act.put, List.setIfInBounds_toArray, List.set_cons_zero, List.set_cons_succ])))
            refine TakeP.nil ?_
            have H4 : Hid (wc.drew.heap[b4]? = _) := I.out.res
            refine wpAnyH_step (i := 19) (by kernel_rfl) (fuel' := 1) (by kernel_rfl) (by simp only [pickOps, List.getElem?_toArray, List.getElem?_cons_zero, List.getElem?_cons_succ]; rfl) (by rfl) ?_
            intro K hK
            refine wp_store_row 43 (.tmp 4) (.tmp 65) rfl b4 #[.int .i64 p.id, .string p.acc, .int .i64 p.c, .int .i64 p.d, .int .i64 (stOf t), .int .i64 t.pd, .int .i64 t.bk] rfl rfl 43 _ H4.out size43 rfl (by simp [Value.oneCell']) ?_
            have HC2 := Lib.hid (HC.out.set HNE.out.2.2.2.2.2 HNE.out.2.2.2.2.1 (Ne.symm HNE.out.1) #[.int .i64 p.id, .string p.acc, .int .i64 p.c, .int .i64 p.d, .int .i64 (stOf t), .int .i64 t.pd, .int .i64 t.bk])
            refine hK _ _ HC2.out ?_
            clear hK K
            have H8 := Lib.hid (setRow_heap wc.drew b4 _ #[.int .i64 p.id, .string p.acc, .int .i64 p.c, .int .i64 p.d, .int .i64 (stOf t), .int .i64 t.pd, .int .i64 t.bk] 43 (0, 0) H4.out)
            have G8 : Grew w (wc.drew.setRow b4 #[.int .i64 p.id, .string p.acc, .int .i64 p.c, .int .i64 p.d, .int .i64 (stOf t), .int .i64 t.pd, .int .i64 t.bk]) := grew_setRow I.out.grew.drew HNE.out.2.2.2.1 _
            simp only [Act.put]
            refine wpAnyH_takes (fun _ _ _ _ _ h => h) HC2.out [20] (fuel' := 0) (by kernel_rfl) (by kernel_rfl) (by simp only [pickOps, List.getElem?_toArray, List.getElem?_cons_zero, List.getElem?_cons_succ]; rfl) ?_
            repeat (refine TakeP.pure (v := ?_) (by rfl) ?_ ?_; rotate_left; (intro w' g'; go_simp; first | done | with_reducible rfl); (simp only [Act.put, List.setIfInBounds_toArray, List.set_cons_zero, List.set_cons_succ]))
            refine TakeP.nil ?_
            refine wpAnyH_done (by kernel_rfl) ?_ _
            clear HC HC2 H4
            go_wp2_with fail
            refine bodyPost_ret (results_std rfl _ _ b4 _ rfl H8.out rfl) rfl ?_
            exact ⟨ret_pair HV.out.symm, G8⟩
        · have q3 : decide (t.bk ≤ t.pd) = false := decide_eq_false z3
          have HV : Hid (okT p t = false) := by unfold Hid okT; rw [q3, Bool.and_false, Bool.false_and]
          clear z3
          clear d0 d1 e0 e1 e2 e3 e4 e5 e6
          refine wp_region_H (by kernel_rfl) (fun w' => RdSt w' g k bp z t p) ?_
          refine wpAnyH_takes (fun _ _ _ _ _ h => h) HC.out [0, 1, 2, 3, 4, 5, 6, 7, 8, 9, 10, 11, 12, 13, 14, 15, 16, 17, 18] (fuel' := 2) (by kernel_rfl) (by kernel_rfl) (by simp only [pickOps, List.getElem?_toArray, List.getElem?_cons_zero, List.getElem?_cons_succ]; rfl) ?_
          repeat (first
            | (refine TakeP.pure (v := ?_) (by rfl) ?_ ?_; rotate_left; (intro w' g'; obtain ⟨⟨d0, d1⟩, c2, e0, e1, e2, e3, e4, e5, e6⟩ := g'; go_simp; first | done | with_reducible rfl); (simp only [Act.put, List.setIfInBounds_toArray, List.set_cons_zero, List.set_cons_succ]))
            | (refine TakeP.skip (by rfl) ?_; (simp only [Act.put, List.setIfInBounds_toArray, List.set_cons_zero, List.set_cons_succ])))
          refine TakeP.nil ?_
          have H4 : Hid (wc.drew.heap[b4]? = _) := I.out.res
          refine wpAnyH_step (i := 19) (by kernel_rfl) (fuel' := 1) (by kernel_rfl) (by simp only [pickOps, List.getElem?_toArray, List.getElem?_cons_zero, List.getElem?_cons_succ]; rfl) (by rfl) ?_
          intro K hK
          refine wp_store_row 43 (.tmp 4) (.tmp 65) rfl b4 #[.int .i64 p.id, .string p.acc, .int .i64 p.c, .int .i64 p.d, .int .i64 (stOf t), .int .i64 t.pd, .int .i64 t.bk] rfl rfl 43 _ H4.out size43 rfl (by simp [Value.oneCell']) ?_
          have HC2 := Lib.hid (HC.out.set HNE.out.2.2.2.2.2 HNE.out.2.2.2.2.1 (Ne.symm HNE.out.1) #[.int .i64 p.id, .string p.acc, .int .i64 p.c, .int .i64 p.d, .int .i64 (stOf t), .int .i64 t.pd, .int .i64 t.bk])
          refine hK _ _ HC2.out ?_
          clear hK K
          have H8 := Lib.hid (setRow_heap wc.drew b4 _ #[.int .i64 p.id, .string p.acc, .int .i64 p.c, .int .i64 p.d, .int .i64 (stOf t), .int .i64 t.pd, .int .i64 t.bk] 43 (0, 0) H4.out)
          have G8 : Grew w (wc.drew.setRow b4 #[.int .i64 p.id, .string p.acc, .int .i64 p.c, .int .i64 p.d, .int .i64 (stOf t), .int .i64 t.pd, .int .i64 t.bk]) := grew_setRow I.out.grew.drew HNE.out.2.2.2.1 _
          simp only [Act.put]
          refine wpAnyH_takes (fun _ _ _ _ _ h => h) HC2.out [20] (fuel' := 0) (by kernel_rfl) (by kernel_rfl) (by simp only [pickOps, List.getElem?_toArray, List.getElem?_cons_zero, List.getElem?_cons_succ]; rfl) ?_
          repeat (refine TakeP.pure (v := ?_) (by rfl) ?_ ?_; rotate_left; (intro w' g'; go_simp; first | done | with_reducible rfl); (simp only [Act.put, List.setIfInBounds_toArray, List.set_cons_zero, List.set_cons_succ]))
          refine TakeP.nil ?_
          refine wpAnyH_done (by kernel_rfl) ?_ _
          clear HC HC2 H4
          go_wp2_with fail
          refine bodyPost_ret (results_std rfl _ _ b4 _ rfl H8.out rfl) rfl ?_
          exact ⟨ret_pair HV.out.symm, G8⟩
end Go.Proofs.Ytaocjobbfcfleaa
