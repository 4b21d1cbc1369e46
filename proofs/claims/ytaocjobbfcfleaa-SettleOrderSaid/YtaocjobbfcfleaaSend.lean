/-
  settle.Send.
-/
import Derived.Test.YtaocjobbfcfleaaValO
import Derived.Test.YtaocjobbfcfleaaDeskP
namespace Go.Proofs.Ytaocjobbfcfleaa
open Go.RowKit Go.Proofs WageMem WageOrd WageRec WageMap WageReg WageSet

theorem set2 {w : World} {b : Nat} (h : w.heap[b]? = some (.cells #[.slice none 0 0, .slice none 0 0] 25)) (v0 v1 : Value) : ((w.setCell ⟨b, 0, none⟩ v0).setCell ⟨b, 1, none⟩ v1).heap[b]? = some (.cells #[v0, v1] 25) := by
  have h0 := Go.heap_setCell_same w b 0 _ 25 v0 h
  have h1 := Go.heap_setCell_same _ b 1 _ 25 v1 h0
  simpa using h1
theorem size25 : (Try.prog.info? 25).map (·.size) = some 2 := by kernel_rfl
theorem results_dsk {fn : Func} {p u : Tmp} (h : fn.results = #[.cell p 25, .tmp u]) (tmps : Array Value) (w : World) (b : Nat) (cs : Array Value) (hp : tmps.getD p undef = .pointer (some ⟨b, 0, none⟩)) (hb : w.heap[b]? = some (.cells cs 25 (0, 0))) (hs : cs.size = 2) :
    (results fn tmps).run Try.prog w = .ok (.tuple #[.agg cs, tmps.getD u undef]) w := by
  have hp' : tmps[p]?.getD undef = .pointer (some ⟨b, 0, none⟩) := by simpa using hp
  rw [results_cell_tmp h]
  simp [hp', asAddr, Result.andThen, run_loadVar_row w b 25 25 cs (0, 0) _ hb Try.underlying25 rfl (by rw [hs]; exact size25)]
theorem ret_dsk {v : Value} {a b : Int} (h : a = b) : Ending.returned (.tuple #[v, .int .i64 a]) = .returned (.tuple #[v, .int .i64 b]) := by rw [h]
theorem desk_nil (w : World) : DeskIs w none 0 0 none 0 0 ⟨[], []⟩ := ⟨⟨Recs.none_, fun _ h => by simp at h⟩, Recs.none_⟩
theorem wf_snoc {l : List Sta} {s : Sta} (h : WfS l) (hs : s.p.acc.size ≤ maxLen) : WfS (l ++ [s]) := fun x hx => by
  rcases List.mem_append.1 hx with hx | hx
  · exact h x hx
  · obtain rfl : x = s := by simpa using hx
    exact hs
theorem own_set2 {w : World} {base b : Nat} {e : TypeId} {size : Nat} {v : Value} {n : Nat} {xs : List Value} (h : w.ownsRow base e size v n xs) (hb : b < base) (u0 u1 : Value) : ((w.setCell ⟨b, 0, none⟩ u0).setCell ⟨b, 1, none⟩ u1).ownsRow base e size v n xs :=
  own_kept (own_kept h (set_grown w b 0 u0) (fun k hk => by injection hk with hk; omega)) (set_grown _ b 1 u1) (fun k hk => by injection hk with hk; omega)
/-- A contract's end: a desk and an error's number. -/
def RetD (e0 : Int) (d0 : Desk) (w : World) (r : Ending) (w' : World) : Prop :=
  ∃ A n c B m e, r = .returned (.tuple #[.agg #[.slice A n c, .slice B m e], .int .i64 e0]) ∧ DeskIs w' A n c B m e d0 ∧ Grew w w'

set_option maxRecDepth 100000 in
set_option maxHeartbeats 16000000 in
theorem send_any (A B : Option Addr) (n c m e : Nat) (d : Desk) (p : Pay) (w : World) (h : DeskIs w A n c B m e d) (hp : p.acc.size ≤ maxLen) : Calls Try.prog 11 #[.agg #[.slice A n c, .slice B m e], pv p] w (RetD (sendE d p) (sendD d p) w) := by
  show Calls Try.prog 11 #[.agg #[.slice A n c, .slice B m e], .agg #[.int .i64 p.id, .string p.acc, .int .i64 p.c, .int .i64 p.d]] w _
  obtain ⟨i0, hi, hz0, hz1, hz2⟩ := info_parts info43
  have HH := Lib.hid h
  have HL := Lib.hid h.1.1.1
  have HLA := Lib.hid h.2.1
  have hn63 := h.1.1.le
  obtain ⟨bd, hbd⟩ : ∃ b, b = w.heap.size := ⟨_, rfl⟩
  obtain ⟨bp, hbp⟩ : ∃ b, b = w.heap.size + 1 := ⟨_, rfl⟩
  obtain ⟨b4, hb4'⟩ : ∃ b, b = w.heap.size + 1 + 1 := ⟨_, rfl⟩
  obtain ⟨w1, hw1⟩ : ∃ x, x = w.alloc (.cells #[.slice A n c, .slice B m e] 25) := ⟨_, rfl⟩
  obtain ⟨w2, hw2⟩ : ∃ x, x = w1.alloc (.cells #[.int .i64 p.id, .string p.acc, .int .i64 p.c, .int .i64 p.d] 27) := ⟨_, rfl⟩
  obtain ⟨w3, hw3⟩ : ∃ x, x = w2.alloc (.cells #[.slice none 0 0, .slice none 0 0] 25) := ⟨_, rfl⟩
  have g1 : Grew w w1 := by rw [hw1]; exact (Grew.refl w).alloc _
  have g12 : Grew w1 w2 := by rw [hw2]; exact (Grew.refl w1).alloc _
  have g23 : Grew w2 w3 := by rw [hw3]; exact (Grew.refl w2).alloc _
  have sz1 : w1.heap.size = w.heap.size + 1 := by rw [hw1]; simp
  have sz2 : w2.heap.size = w.heap.size + 1 + 1 := by rw [hw2]; simp [sz1]
  have HRD3 : Hid (w3.rangeAt bd 0 [.slice A n c, .slice B m e]) := by rw [hbd]; exact range_grew (by rw [hw1]; exact range_new w _ 25) (g12.trans g23)
  have HRP3 : Hid (w3.rangeAt bp 0 (pe p)) := by rw [hbp, ← sz1]; exact range_grew (by rw [hw2]; exact range_new w1 (pe p) 27) g23
  have HB3 : Hid (w3.heap[b4]? = some (.cells #[.slice none 0 0, .slice none 0 0] 25)) := by unfold Hid; rw [hb4', ← sz2, hw3]; exact heap_alloc_new w2 _
  have G3 := Lib.hid ((g1.trans g12).trans g23)
  have hb4 : w.heap.size ≤ b4 := by omega
  clear h g1 g12 g23 sz1 sz2
  cases hv : validB d with
  | false =>
    have HV := Lib.hid hv
    have HE : Hid (sendE d p = 1) := send_bad (by rw [hv]; rfl)
    have HD := Lib.hid (sendD_no HE.out (by decide))
    clear hv
    go_enter Try.func11, Try.ntmps11
    go_wp2_with fail
    rw [← hw1]
    rw [← hw2]
    rw [← hw3, ← hb4', ← hbp, ← hbd]
    clear hw1 hw2 hw3 hbd hbp hb4'
    refine (valid_val (HH.out.grew G3.out) HV.out).mono ?_
    rintro r w5 ⟨rfl, g5⟩
    have HB5 := Lib.hid (g5.block HB3.out)
    have y0 := row_at (l := [.slice none 0 0, .slice none 0 0]) HB5.out 0 _ rfl
    have y1 := row_at (l := [.slice none 0 0, .slice none 0 0]) HB5.out 1 _ rfl
    have f0 := row_free HB5.out 0
    have f1 := row_free HB5.out 1
    simp only [Nat.zero_add] at y0 y1
    go_wp2_with fail
    refine bodyPost_ret (results_dsk rfl _ _ b4 _ rfl (set2 HB5.out _ _) rfl) rfl ?_
    exact ⟨none, 0, 0, none, 0, 0, ret_dsk HE.out.symm, by rw [HD.out]; exact desk_nil _, ((G3.out.trans g5).set hb4 _).set hb4 _⟩
  | true =>
    have HV := Lib.hid hv
    cases hgp : payB p with
    | false =>
      have HGP := Lib.hid hgp
      have HE : Hid (sendE d p = 1) := send_bad (by rw [hv, hgp]; rfl)
      have HD := Lib.hid (sendD_no HE.out (by decide))
      clear hv hgp
      go_enter Try.func11, Try.ntmps11
      go_wp2_with fail
      rw [← hw1]
      rw [← hw2]
      rw [← hw3, ← hb4', ← hbp, ← hbd]
      clear hw1 hw2 hw3 hbd hbp hb4'
      refine (valid_val (HH.out.grew G3.out) HV.out).mono ?_
      rintro r w4 ⟨rfl, g4⟩
      obtain ⟨c0, c1, c2, c3⟩ := p_cells0 (range_grew HRP3.out g4)
      go_wp2_with fail
      refine (pay_val HGP.out hp _).mono ?_
      rintro r w5 ⟨rfl, g5⟩
      have HB5 := Lib.hid ((g4.trans g5).block HB3.out)
      have y0 := row_at (l := [.slice none 0 0, .slice none 0 0]) HB5.out 0 _ rfl
      have y1 := row_at (l := [.slice none 0 0, .slice none 0 0]) HB5.out 1 _ rfl
      have f0 := row_free HB5.out 0
      have f1 := row_free HB5.out 1
      simp only [Nat.zero_add] at y0 y1
      go_wp2_with fail
      refine bodyPost_ret (results_dsk rfl _ _ b4 _ rfl (set2 HB5.out _ _) rfl) rfl ?_
      exact ⟨none, 0, 0, none, 0, 0, ret_dsk HE.out.symm, by rw [HD.out]; exact desk_nil _, ((G3.out.trans (g4.trans g5)).set hb4 _).set hb4 _⟩
    | true =>
      have HGP := Lib.hid hgp
      have HVP : Hid ((validB d && payB p) = true) := by unfold Hid; rw [hv, hgp]; rfl
      clear hv hgp
      go_enter Try.func11, Try.ntmps11
      go_wp2_with fail
      rw [← hw1]
      rw [← hw2]
      rw [← hw3, ← hb4', ← hbp, ← hbd]
      clear hw1 hw2 hw3 hbd hbp hb4'
      refine (valid_val (HH.out.grew G3.out) HV.out).mono ?_
      rintro r w4 ⟨rfl, g4⟩
      obtain ⟨c0, c1, c2, c3⟩ := p_cells0 (range_grew HRP3.out g4)
      go_wp2_with fail
      clear c0 c1 c2 c3
      refine (pay_val HGP.out hp _).mono ?_
      rintro r w5 ⟨rfl, g5⟩
      have gg := g4.trans g5
      have HB5 := Lib.hid (gg.block HB3.out)
      have HRD5 : Hid (w5.rangeAt bd 0 [.slice A n c, .slice B m e]) := range_grew HRD3.out gg
      have HRP5 : Hid (w5.rangeAt bp 0 (pe p)) := range_grew HRP3.out gg
      have HD5 := Lib.hid (HH.out.grew (G3.out.trans gg))
      have G5 := Lib.hid (G3.out.trans gg)
      have hm2 : m ≤ 2000 := by rw [← HLA.out]; exact (valid_parts HV.out).2.1
      have hr0 := range_grew HRD3.out gg 0 _ rfl
      simp only [Nat.zero_add] at hr0
      clear HB3 HRD3 HRP3 G3 g4 g5 gg
      go_wp2_with fail
      clear hr0
      go_loopw [21] (fun i y => ∃ k : Nat, k ≤ n ∧ i = .int .i64 k ∧ Hid (hasId (d.ss.take k) p.id = false) ∧ Grew w5 y) (fun i _ => n - (intOf i).toNat)
      case atStart => exact ⟨0, Nat.zero_le _, rfl, rfl, Grew.refl _⟩
      case round =>
        obtain ⟨k, hk, rfl, HI, hg⟩ := hrel
        have HDW := Lib.hid (HD5.out.grew hg)
        by_cases hlt : k < n
        · obtain ⟨b, o, x, rfl, hx, hr⟩ := HDW.out.1.1.at_ se_ok hlt
          have HX := Lib.hid hx
          have k0 : (0 : Int) ≤ (k : Int) := by omega
          have k1 : (k : Int) < (n : Int) := by omega
          obtain ⟨c0, c1, c2, c3, c4, c5, c6⟩ := s_cells hr
          obtain ⟨wa, hwa⟩ : ∃ y, y = wr.alloc (.cells #[.int .i64 x.p.id, .string x.p.acc, .int .i64 x.p.c, .int .i64 x.p.d, .int .i64 x.st, .int .i64 x.pd, .int .i64 x.bk] 43) := ⟨_, rfl⟩
          have ga : Grew wr wa := by rw [hwa]; exact (Grew.refl wr).alloc _
          have hrx : wa.rangeAt wr.heap.size 0 (se x) := by rw [hwa]; exact range_new wr (se x) 43
          obtain ⟨x0, x1, x2, x3, x4, x5, x6⟩ := s_cells0 hrx
          have gA := hg.trans ga
          have hp0 := (p_cells0 (range_grew HRP5.out gA)).1
          have HBA := Lib.hid (gA.block HB5.out)
          clear hx hr hrx hg ga
          by_cases hid : x.p.id = p.id
          · have q1 : (x.p.id == p.id) = true := by rw [beq_iff_eq]; exact hid
            have HE : Hid (sendE d p = 5) := send_two HVP.out (hasId_yes HX.out hid)
            have HD := Lib.hid (sendD_no HE.out (by decide))
            have y0 := row_at (l := [.slice none 0 0, .slice none 0 0]) HBA.out 0 _ rfl
            have y1 := row_at (l := [.slice none 0 0, .slice none 0 0]) HBA.out 1 _ rfl
            have f0 := row_free HBA.out 0
            have f1 := row_free HBA.out 1
            simp only [Nat.zero_add] at y0 y1
            clear hid
            go_upto_region 6 with (fail)
            rw [← hwa]
            clear hwa c0 c1 c2 c3 c4 c5 c6
            go_wp2_with fail
            refine bodyPost_ret (results_dsk rfl _ _ b4 _ rfl (set2 HBA.out _ _) rfl) rfl ?_
            exact ⟨none, 0, 0, none, 0, 0, ret_dsk HE.out.symm, by rw [HD.out]; exact desk_nil _, ((G5.out.trans gA).set hb4 _).set hb4 _⟩
          · have q1 : (x.p.id == p.id) = false := by rw [beq_eq_false_iff_ne]; exact hid
            have HI2 := Lib.hid (hasId_none HX.out HI.out hid)
            clear hid HBA
            go_upto_region 6 with (fail)
            rw [← hwa]
            clear hwa c0 c1 c2 c3 c4 c5 c6
            go_wp2_with fail
            go_roundw
            case rel => exact ⟨k + 1, by omega, by go_num, HI2, gA⟩
            case measure => simp [intOf]; omega
        · have HIN : Hid (hasId d.ss p.id = false) := by have := HI.out; rw [List.take_of_length_le (by rw [HL.out]; omega)] at this; exact this
          have hr0 := range_grew HRD5.out hg 0 _ rfl
          simp only [Nat.zero_add] at hr0
          have HB4 := Lib.hid (hg.block HB5.out)
          have G2 := Lib.hid (G5.out.trans hg)
          have HRD : Hid (wr.rangeAt bd 0 [.slice A n c, .slice B m e]) := range_grew HRD5.out hg
          have HRP : Hid (wr.rangeAt bp 0 (pe p)) := range_grew HRP5.out hg
          have hbl : b4 < wr.heap.size := (Array.getElem?_eq_some_iff.1 HB4.out).1
          clear HI hg
          by_cases hn4 : 400 ≤ n
          · have q1 : decide (400 ≤ (n : Int)) = true := decide_eq_true (by omega)
            have HE : Hid (sendE d p = 2) := send_lim HVP.out HIN.out (by rw [HL.out]; exact hn4)
            have HD := Lib.hid (sendD_no HE.out (by decide))
            have y0 := row_at (l := [.slice none 0 0, .slice none 0 0]) HB4.out 0 _ rfl
            have y1 := row_at (l := [.slice none 0 0, .slice none 0 0]) HB4.out 1 _ rfl
            have f0 := row_free HB4.out 0
            have f1 := row_free HB4.out 1
            simp only [Nat.zero_add] at y0 y1
            go_wp2_with fail
            refine bodyPost_ret (results_dsk rfl _ _ b4 _ rfl (set2 HB4.out _ _) rfl) rfl ?_
            exact ⟨none, 0, 0, none, 0, 0, ret_dsk HE.out.symm, by rw [HD.out]; exact desk_nil _, (G2.out.set hb4 _).set hb4 _⟩
          · have q1 : decide (400 ≤ (n : Int)) = false := decide_eq_false (by omega)
            have HE : Hid (sendE d p = 0) := send_ok HVP.out HIN.out (by rw [HL.out]; exact hn4)
            have HD := Lib.hid (sendD_ok HE.out)
            go_wp2_with fail
            clear hr0
            obtain ⟨wl, rfl⟩ : ∃ wl : World, wl = wr := ⟨_, rfl⟩
            have HDL := HDW
            have hC : ∀ w', Grew wl.drew w' → (w'.cell? ⟨bd, 0, none⟩ = some (.slice A n c)) ∧ (w'.cell? ⟨bp, 0, none⟩ = some (.int .i64 p.id) ∧ w'.cell? ⟨bp, 1, none⟩ = some (.string p.acc) ∧ w'.cell? ⟨bp, 2, none⟩ = some (.int .i64 p.c) ∧ w'.cell? ⟨bp, 3, none⟩ = some (.int .i64 p.d)) := fun w' g' => by
              have gg : Grew wl w' := (Grew.refl wl).drew.trans g'
              have h0 := range_grew HRD.out gg 0 _ rfl
              simp only [Nat.zero_add] at h0
              exact ⟨h0, p_cells0 (range_grew HRP.out gg)⟩
            refine wp_region_H (by kernel_rfl) (fun w' => Grew wl.drew w') ?_
            refine wpAnyH_takes (fun _ _ _ _ _ h => h) (Grew.refl _) [0, 1, 3, 4] (fuel' := 4) (by kernel_rfl) (by kernel_rfl) (by simp only [pickOps, List.getElem?_toArray, List.getElem?_cons_zero, List.getElem?_cons_succ]; rfl) ?_
            repeat (first
              | (refine TakeP.pure (v := ?_) (by rfl) ?_ ?_; rotate_left; (intro w' g'; obtain ⟨e0, c0, c1, c2, c3⟩ := hC w' g'; go_simp; first | done | with_reducible rfl); (simp only [Act.put, List.setIfInBounds_toArray, List.set_cons_zero, List.set_cons_succ])))
            refine TakeP.nil ?_
            refine wpAnyH_two (i := 2) (j := 5) (by kernel_rfl) (fuel' := 3) (by kernel_rfl) (by simp only [pickOps, List.getElem?_toArray, List.getElem?_cons_zero, List.getElem?_cons_succ]; rfl) rfl (by simp only [pickOps, List.getElem?_toArray, List.getElem?_cons_zero, List.getElem?_cons_succ]; rfl) rfl ?_ ?_
            · intro K hK
              refine wp_call 31 #[.slice A n c] (by go_simp; first | done | rfl) ?_
              refine (cloneS_any A n c d.ss _ (HDL.out.1.1.grew (Grew.refl wl).drew) (by omega)).mono ?_
              rintro r w5' ⟨A5, n5, c5, rfl, hl5, own5, g5⟩
              have S5 : Grew wl.drew w5' := g5
              refine ⟨_, rfl, hK _ _ S5 ?_⟩
              clear hK K
              simp only [Act.put, List.setIfInBounds_toArray, List.set_cons_zero, List.set_cons_succ]
              have hn5 : n5 ≤ 400 := by rw [← hl5, HL.out]; omega
              refine wpAnyH_step (i := 5) (by kernel_rfl) (fuel' := 2) (by kernel_rfl) (by simp only [pickOps, List.getElem?_toArray, List.getElem?_cons_zero, List.getElem?_cons_succ]; rfl) (by rfl) ?_
              intro K hK
              go_simp
              have S6' := S5.alloc (.cells #[.int .i64 p.id, .string p.acc, .int .i64 p.c, .int .i64 p.d, .int .i64 1, .int .i64 0, .int .i64 0] 43)
              refine hK _ _ S6' ?_
              clear hK K
              have BI0 := Lib.hid (Recs.built (w := w5') se_ok (t := 43) (l := [(⟨p, 1, 0, 0⟩ : Sta)]) (n := 1) #[.int .i64 p.id, .string p.acc, .int .i64 p.c, .int .i64 p.d, .int .i64 1, .int .i64 0, .int .i64 0] rfl rfl (by decide))
              have OW6' := Lib.hid (own_grew (show w5'.ownsRow wl.heap.size 43 7 _ _ _ from own5) ((Grew.refl w5').alloc (.cells #[.int .i64 p.id, .string p.acc, .int .i64 p.c, .int .i64 p.d, .int .i64 1, .int .i64 0, .int .i64 0] 43)))
              obtain ⟨w6, hw6⟩ : ∃ y, y = w5'.alloc (.cells #[.int .i64 p.id, .string p.acc, .int .i64 p.c, .int .i64 p.d, .int .i64 1, .int .i64 0, .int .i64 0] 43) := ⟨_, rfl⟩
              rw [← hw6] at BI0 S6' OW6' ⊢
              obtain ⟨z, hz⟩ : ∃ z, z = w5'.heap.size := ⟨_, rfl⟩
              rw [← hz] at BI0 ⊢
              have BI := BI0
              have S6 := S6'
              have OW6 := OW6'
              have hwl6 : wl.heap.size ≤ w6.heap.size := S6.le
              clear hw6 hz own5 g5 S5 BI0 S6' OW6'
              refine wpAnyH_step (i := 6) (by kernel_rfl) (fuel' := 1) (by kernel_rfl) (by simp only [pickOps, List.getElem?_toArray, List.getElem?_cons_zero, List.getElem?_cons_succ]; rfl) (by rfl) ?_
              intro K hK
              obtain ⟨v8, w8, run8, own8, gr8, _⟩ := run_append_sl (P := Try.prog) w6 wl.heap.size 22 22 43 i0 _ 7 64 Try.underlying22 hi hz0 hz1 hz2 rfl (by decide) _ n5 _ OW6.out _ 1 1 _ BI.out.2 (flat_one se_ok _) (by unfold maxLen; omega) (by omega) hwl6
              obtain ⟨A8, c8, rfl⟩ := own_form own8
              refine wp_append_run w6 (.tmp 40) (.tmp 43) 22 22 rfl rfl rfl run8 ?_
              have hlo := fun j hj => (OW6.out.lt j hj).1
              have S8 : Grew wl.drew w8 := S6.grown gr8 hlo
              refine hK _ _ S8 ?_
              clear hK K run8
              simp only [Act.put, List.setIfInBounds_toArray, List.set_cons_zero, List.set_cons_succ]
              refine wpAnyH_takes (fun _ _ _ _ _ h => h) S8 [7] (fuel' := 0) (by kernel_rfl) (by kernel_rfl) (by simp only [pickOps, List.getElem?_toArray, List.getElem?_cons_zero, List.getElem?_cons_succ]; rfl) ?_
              repeat (first
                | (refine TakeP.pure (v := ?_) (by rfl) ?_ ?_; rotate_left; (intro w' g'; go_simp; first | done | with_reducible rfl); (simp only [Act.put, List.setIfInBounds_toArray, List.set_cons_zero, List.set_cons_succ])))
              refine TakeP.nil ?_
              refine wpAnyH_done (by kernel_rfl) ?_ _
              have HO8 : Hid (w8.ownsRow wl.heap.size 43 7 (.slice A8 (n5 + 1) c8) (n5 + 1) ((d.ss ++ [(⟨p, 1, 0, 0⟩ : Sta)]).flatMap se)) := by unfold Hid; rw [List.flatMap_append]; exact own8
              have gl8 : Grew wl w8 := (Grew.refl wl).drew.trans S8
              have G8 := G2.out.trans gl8
              have HB8 := Lib.hid (gl8.block HB4.out)
              have HD8 := Lib.hid (HDL.out.grew gl8)
              have hr1 := range_grew HRD.out gl8 1 _ rfl
              have hlw8 := gl8.le
              simp only [Nat.zero_add] at hr1
              clear own8 gr8 hlo S8 S6 OW6 BI hC HRD gl8
              go_wp2_with fail
              refine (cloneA_any B m e d.an _ HD8.out.2 (by omega)).mono ?_
              rintro r w9 ⟨B9, m9, e9, rfl, hl9, own9, g9⟩
              have HB9 := Lib.hid (g9.block HB8.out)
              have y0 := row_at (l := [.slice none 0 0, .slice none 0 0]) HB9.out 0 _ rfl
              have y1 := row_at (l := [.slice none 0 0, .slice none 0 0]) HB9.out 1 _ rfl
              have f0 := row_free HB9.out 0
              have f1 := row_free HB9.out 1
              simp only [Nat.zero_add] at y0 y1
              have OS9 := Lib.hid (own_grew HO8.out g9)
              have OA9 := Lib.hid own9
              have HLA9 := Lib.hid hl9
              have G9 := G8.trans g9
              have hn5' := hl5
              clear hr1 HO8 own9 hl9 g9 HD8 HB8 G8
              go_wp2_with fail
              refine bodyPost_ret (results_dsk rfl _ _ b4 _ rfl (set2 HB9.out _ _) rfl) rfl ?_
              refine ⟨A8, n5 + 1, c8, B9, m9, e9, ret_dsk HE.out.symm, ?_, (G9.set hb4 _).set hb4 _⟩
              rw [HD.out]
              exact ⟨⟨Recs.own (by rw [List.length_append, hn5']; rfl) (own_set2 OS9.out hbl _ _), wf_snoc HH.out.1.2 hp⟩, Recs.own HLA9.out (own_set2 OA9.out (by omega) _ _)⟩
            · intro K hK
              go_simp
              have S0 : Grew wl.drew (wl.alloc (.cells #[.int .i64 p.id, .string p.acc, .int .i64 p.c, .int .i64 p.d, .int .i64 1, .int .i64 0, .int .i64 0] 43)).drew := show Grew wl.drew (wl.drew.alloc (.cells #[.int .i64 p.id, .string p.acc, .int .i64 p.c, .int .i64 p.d, .int .i64 1, .int .i64 0, .int .i64 0] 43)) from (Grew.refl wl.drew).alloc _
              refine hK _ _ S0 ?_
              clear hK K
              have BI0 : Hid (Recs se 7 (wl.alloc (.cells #[.int .i64 p.id, .string p.acc, .int .i64 p.c, .int .i64 p.d, .int .i64 1, .int .i64 0, .int .i64 0] 43)).drew (some ⟨wl.heap.size, 0, none⟩) 1 1 [(⟨p, 1, 0, 0⟩ : Sta)]) := (Recs.built (w := wl) se_ok (t := 43) (l := [(⟨p, 1, 0, 0⟩ : Sta)]) (n := 1) #[.int .i64 p.id, .string p.acc, .int .i64 p.c, .int .i64 p.d, .int .i64 1, .int .i64 0, .int .i64 0] rfl rfl (by decide)).grew (Grew.refl _).drew
              obtain ⟨w4, hw4⟩ : ∃ y, y = (wl.alloc (.cells #[.int .i64 p.id, .string p.acc, .int .i64 p.c, .int .i64 p.d, .int .i64 1, .int .i64 0, .int .i64 0] 43)).drew := ⟨_, rfl⟩
              rw [← hw4] at BI0 S0 ⊢
              clear hw4
              refine wpAnyH_step (i := 2) (by kernel_rfl) (fuel' := 2) (by kernel_rfl) (by simp only [pickOps, List.getElem?_toArray, List.getElem?_cons_zero, List.getElem?_cons_succ]; rfl) (by rfl) ?_
              intro K hK
              refine wp_call 31 #[.slice A n c] (by go_simp; first | done | rfl) ?_
              refine (cloneS_any A n c d.ss _ (HDL.out.1.1.grew ((Grew.refl wl).drew.trans S0)) (by omega)).mono ?_
              rintro r w6 ⟨A5, n5, c5, rfl, hl5, own5, g5⟩
              have S6 : Grew wl.drew w6 := S0.trans g5
              refine ⟨_, rfl, hK _ _ S6 ?_⟩
              clear hK K
              simp only [Act.put, List.setIfInBounds_toArray, List.set_cons_zero, List.set_cons_succ]
              have hn5 : n5 ≤ 400 := by rw [← hl5, HL.out]; omega
              have BI := Lib.hid (BI0.out.grew g5)
              have OW6 := Lib.hid (own_base own5 (S0.le))
              have hwl6 : wl.heap.size ≤ w6.heap.size := S6.le
              clear own5 g5 BI0 S0
              refine wpAnyH_step (i := 6) (by kernel_rfl) (fuel' := 1) (by kernel_rfl) (by simp only [pickOps, List.getElem?_toArray, List.getElem?_cons_zero, List.getElem?_cons_succ]; rfl) (by rfl) ?_
              intro K hK
              obtain ⟨v8, w8, run8, own8, gr8, _⟩ := run_append_sl (P := Try.prog) w6 wl.heap.size 22 22 43 i0 _ 7 64 Try.underlying22 hi hz0 hz1 hz2 rfl (by decide) _ n5 _ OW6.out _ 1 1 _ BI.out.2 (flat_one se_ok _) (by unfold maxLen; omega) (by omega) hwl6
              obtain ⟨A8, c8, rfl⟩ := own_form own8
              refine wp_append_run w6 (.tmp 40) (.tmp 43) 22 22 rfl rfl rfl run8 ?_
              have hlo := fun j hj => (OW6.out.lt j hj).1
              have S8 : Grew wl.drew w8 := S6.grown gr8 hlo
              refine hK _ _ S8 ?_
              clear hK K run8
              simp only [Act.put, List.setIfInBounds_toArray, List.set_cons_zero, List.set_cons_succ]
              refine wpAnyH_takes (fun _ _ _ _ _ h => h) S8 [7] (fuel' := 0) (by kernel_rfl) (by kernel_rfl) (by simp only [pickOps, List.getElem?_toArray, List.getElem?_cons_zero, List.getElem?_cons_succ]; rfl) ?_
              repeat (first
                | (refine TakeP.pure (v := ?_) (by rfl) ?_ ?_; rotate_left; (intro w' g'; go_simp; first | done | with_reducible rfl); (simp only [Act.put, List.setIfInBounds_toArray, List.set_cons_zero, List.set_cons_succ])))
              refine TakeP.nil ?_
              refine wpAnyH_done (by kernel_rfl) ?_ _
              have HO8 : Hid (w8.ownsRow wl.heap.size 43 7 (.slice A8 (n5 + 1) c8) (n5 + 1) ((d.ss ++ [(⟨p, 1, 0, 0⟩ : Sta)]).flatMap se)) := by unfold Hid; rw [List.flatMap_append]; exact own8
              have gl8 : Grew wl w8 := (Grew.refl wl).drew.trans S8
              have G8 := G2.out.trans gl8
              have HB8 := Lib.hid (gl8.block HB4.out)
              have HD8 := Lib.hid (HDL.out.grew gl8)
              have hr1 := range_grew HRD.out gl8 1 _ rfl
              have hlw8 := gl8.le
              simp only [Nat.zero_add] at hr1
              clear own8 gr8 hlo S8 S6 OW6 BI hC HRD gl8
              go_wp2_with fail
              refine (cloneA_any B m e d.an _ HD8.out.2 (by omega)).mono ?_
              rintro r w9 ⟨B9, m9, e9, rfl, hl9, own9, g9⟩
              have HB9 := Lib.hid (g9.block HB8.out)
              have y0 := row_at (l := [.slice none 0 0, .slice none 0 0]) HB9.out 0 _ rfl
              have y1 := row_at (l := [.slice none 0 0, .slice none 0 0]) HB9.out 1 _ rfl
              have f0 := row_free HB9.out 0
              have f1 := row_free HB9.out 1
              simp only [Nat.zero_add] at y0 y1
              have OS9 := Lib.hid (own_grew HO8.out g9)
              have OA9 := Lib.hid own9
              have HLA9 := Lib.hid hl9
              have G9 := G8.trans g9
              have hn5' := hl5
              clear hr1 HO8 own9 hl9 g9 HD8 HB8 G8
              go_wp2_with fail
              refine bodyPost_ret (results_dsk rfl _ _ b4 _ rfl (set2 HB9.out _ _) rfl) rfl ?_
              refine ⟨A8, n5 + 1, c8, B9, m9, e9, ret_dsk HE.out.symm, ?_, (G9.set hb4 _).set hb4 _⟩
              rw [HD.out]
              exact ⟨⟨Recs.own (by rw [List.length_append, hn5']; rfl) (own_set2 OS9.out hbl _ _), wf_snoc HH.out.1.2 hp⟩, Recs.own HLA9.out (own_set2 OA9.out (by omega) _ _)⟩
end Go.Proofs.Ytaocjobbfcfleaa
