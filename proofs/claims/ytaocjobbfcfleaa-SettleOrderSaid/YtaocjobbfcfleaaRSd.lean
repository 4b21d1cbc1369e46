/-
  The reference's Send.
-/
import Derived.Test.YtaocjobbfcfleaaRSm
namespace WageSet
open WageOrd
theorem find_yes {l : List Sta} {id : Int} (h : hasId l id = true) : ∃ k : Nat, findI l id = (k : Int) ∧ ∃ x, l[k]? = some x ∧ x.p.id = id := by
  unfold findI
  cases hf : l.findIdx? (fun s => s.p.id == id) with
  | none =>
    rw [List.findIdx?_eq_none_iff] at hf
    unfold hasId at h
    rw [List.any_eq_true] at h
    obtain ⟨x, hx, h2⟩ := h
    rw [hf x hx] at h2; cases h2
  | some k =>
    rw [List.findIdx?_eq_some_iff_getElem] at hf
    obtain ⟨hk, h2, _⟩ := hf
    exact ⟨k, rfl, l[k], List.getElem?_eq_getElem hk, by simpa using h2⟩
end WageSet
namespace Go.Proofs.Ytaocjobbfcfleaa
open Go.RowKit Go.Proofs WageMem WageOrd WageRec WageMap WageReg WageSet
theorem own_keep {w w' : World} {row : Option Nat} {base : Nat} {e : TypeId} {size : Nat} {v : Value} {n : Nat} {xs : List Value} (h : w.ownsRow base e size v n xs) (g : w.grownBy w' row) (hr : ∀ k, row = some k → v.ownBlock ≠ some k) : w'.ownsRow base e size v n xs := by
  refine ⟨h.1, ?_⟩
  rcases h.2 with h2 | ⟨k, cap, cur, h1, h2, h3, h4⟩
  · exact .inl h2
  · refine .inr ⟨k, cap, cur, h1, h2, (g.block k (Array.getElem?_eq_some_iff.1 h3).1 (fun e => ?_)).trans h3, h4⟩
    subst h1
    exact hr k e.symm rfl
theorem own_ne {w : World} {base base' : Nat} {e e' : TypeId} {size size' : Nat} {v v' : Value} {n n' : Nat} {xs xs' : List Value} (h : w.ownsRow base e size v n xs) (h' : w.ownsRow base' e' size' v' n' xs') (he : e ≠ e') {g : Nat} (hg : v.ownBlock = some g) : v'.ownBlock ≠ some g := by
  intro hg'
  rcases h.2 with ⟨rfl, _⟩ | ⟨k, cap, cur, rfl, _, h3, _⟩
  · cases hg
  rcases h'.2 with ⟨rfl, _⟩ | ⟨k', cap', cur', rfl, _, h3', _⟩
  · cases hg'
  have e1 : k = g := by simpa [Value.ownBlock] using hg
  have e2 : k' = g := by simpa [Value.ownBlock] using hg'
  subst e1 e2
  rw [h3] at h3'
  injection h3' with h3'
  injection h3' with _ h5
  exact he h5
set_option maxRecDepth 100000 in
set_option maxHeartbeats 16000000 in
theorem rsend_any (A0 : Option Addr) (n0 c0 : Nat) (B0 : Option Addr) (m0 e0 : Nat) (d : Desk) (p : Pay) (w : World) (h : DeskIs w A0 n0 c0 B0 m0 e0 d) (hp : p.acc.size ≤ maxLen) : Calls Try.prog 12 #[.agg #[.slice A0 n0 c0, .slice B0 m0 e0], pv p] w (RetD (sendE d p) (sendD d p) w) := by
  obtain ⟨i0, hi, hz0, hz1, hz2⟩ := info_parts info43
  have HD := Lib.hid h
  have HL := Lib.hid h.1.1.1
  have HLA := Lib.hid h.2.1
  have HWF := Lib.hid h.1.2
  have un := h.1.1.le
  clear h
  show Calls Try.prog 12 #[.agg #[.slice A0 n0 c0, .slice B0 m0 e0], .agg #[.int .i64 p.id, .string p.acc, .int .i64 p.c, .int .i64 p.d]] w _
  obtain ⟨b1, hb0⟩ : ∃ b, b = w.heap.size := ⟨_, rfl⟩
  obtain ⟨w1, hw0⟩ : ∃ x, x = w.alloc (.cells #[.slice A0 n0 c0, .slice B0 m0 e0] 25) := ⟨_, rfl⟩
  have g0 : Grew w w1 := by rw [hw0]; exact (Grew.refl w).alloc _
  have sz0 : w1.heap.size = w.heap.size + 1 := by rw [hw0]; simp
  obtain ⟨b2, hb1⟩ : ∃ b, b = w.heap.size + 1 := ⟨_, rfl⟩
  obtain ⟨w2, hw1⟩ : ∃ x, x = w1.alloc (.cells #[.int .i64 p.id, .string p.acc, .int .i64 p.c, .int .i64 p.d] 27) := ⟨_, rfl⟩
  have g1 : Grew w1 w2 := by rw [hw1]; exact (Grew.refl w1).alloc _
  have sz1 : w2.heap.size = w.heap.size + 1 + 1 := by rw [hw1]; simp [sz0]
  obtain ⟨b4, hb2⟩ : ∃ b, b = w.heap.size + 1 + 1 := ⟨_, rfl⟩
  obtain ⟨w3, hw2⟩ : ∃ x, x = w2.alloc (.cells #[.slice none 0 0, .slice none 0 0] 25) := ⟨_, rfl⟩
  have g2 : Grew w2 w3 := by rw [hw2]; exact (Grew.refl w2).alloc _
  have sz2 : w3.heap.size = w.heap.size + 1 + 1 + 1 := by rw [hw2]; simp [sz1]
  have HRd : Hid (w3.rangeAt b1 0 [.slice A0 n0 c0, .slice B0 m0 e0]) := by
    unfold Hid
    rw [hb0]
    exact range_grew (by rw [hw0]; exact range_new w _ 25) (g1.trans g2)
  have HRp : Hid (w3.rangeAt b2 0 [.int .i64 p.id, .string p.acc, .int .i64 p.c, .int .i64 p.d]) := by
    unfold Hid
    rw [hb1, ← sz0]
    exact range_grew (by rw [hw1]; exact range_new w1 _ 27) g2
  have HB4 : Hid (w3.heap[b4]? = some (.cells #[.slice none 0 0, .slice none 0 0] 25)) := by
    unfold Hid
    rw [hb2, ← sz1, hw2]
    exact heap_alloc_new w2 _
  have hb4 : w.heap.size ≤ b4 := by omega
  have gg : Grew w w3 := ((g0.trans g1).trans g2)
  clear sz0 g0 sz1 g1 sz2 g2
  go_enter Try.func12, Try.ntmps12
  go_upto_region 1 with (fail)
  rw [← hw0]
  rw [← hw1]
  rw [← hw2]
  rw [← hb2, ← hb1, ← hb0]
  clear hw0 hb0 hw1 hb1 hw2 hb2
  replace HD := Lib.hid (HD.out.grew gg)
  obtain ⟨tv, hvv⟩ : ∃ t, validB d = t := ⟨_, rfl⟩
  have HV := Lib.hid hvv
  clear hvv
  obtain ⟨z0_0, z0_1⟩ := d_cells HRd.out
  go_wp2_with fail
  clear z0_0 z0_1
  refine (rvalid_val HD.out HV.out).mono ?_
  rintro r w5 ⟨rfl, g⟩
  replace HB4 := Lib.hid (g.block HB4.out)
  replace HRd := Lib.hid (range_grew HRd.out g)
  replace HRp := Lib.hid (range_grew HRp.out g)
  replace HD := Lib.hid (HD.out.grew g)
  replace gg := gg.trans g
  clear g
  cases tv with
  | false =>
    have HE : Hid (sendE d p = 1) := send_bad (by rw [HV.out]; rfl)
    have HDD := Lib.hid (sendD_no HE.out (by decide))
    obtain ⟨y0, y1⟩ := d_cells (row_at (l := [.slice none 0 0, .slice none 0 0]) HB4.out)
    have f0 := row_free HB4.out 0
    have f1 := row_free HB4.out 1
    go_wp2_with fail
    refine bodyPost_ret (results_dsk rfl _ _ b4 _ rfl (set2 HB4.out _ _) rfl) rfl ?_
    exact ⟨none, 0, 0, none, 0, 0, ret_dsk HE.out.symm, by rw [HDD.out]; exact desk_nil _, (gg.set hb4 _).set hb4 _⟩
  | true =>
    obtain ⟨tv, hvv⟩ : ∃ t, payB p = t := ⟨_, rfl⟩
    have HP := Lib.hid hvv
    clear hvv
    obtain ⟨z1_0, z1_1, z1_2, z1_3⟩ := p_cells0 HRp.out
    go_wp2_with fail
    clear z1_0 z1_1 z1_2 z1_3
    refine (rpay_val HP.out hp _).mono ?_
    rintro r w6 ⟨rfl, g⟩
    replace HB4 := Lib.hid (g.block HB4.out)
    replace HRd := Lib.hid (range_grew HRd.out g)
    replace HRp := Lib.hid (range_grew HRp.out g)
    replace HD := Lib.hid (HD.out.grew g)
    replace gg := gg.trans g
    clear g
    cases tv with
    | false =>
      have HE : Hid (sendE d p = 1) := send_bad (by rw [HV.out, HP.out]; rfl)
      have HDD := Lib.hid (sendD_no HE.out (by decide))
      obtain ⟨y0, y1⟩ := d_cells (row_at (l := [.slice none 0 0, .slice none 0 0]) HB4.out)
      have f0 := row_free HB4.out 0
      have f1 := row_free HB4.out 1
      go_wp2_with fail
      refine bodyPost_ret (results_dsk rfl _ _ b4 _ rfl (set2 HB4.out _ _) rfl) rfl ?_
      exact ⟨none, 0, 0, none, 0, 0, ret_dsk HE.out.symm, by rw [HDD.out]; exact desk_nil _, (gg.set hb4 _).set hb4 _⟩
    | true =>
      have HVP : Hid ((validB d && payB p) = true) := by unfold Hid; rw [HV.out, HP.out]; rfl
      obtain ⟨z, hzz⟩ : ∃ z, findI d.ss p.id = z := ⟨_, rfl⟩
      have HZ := Lib.hid hzz
      clear hzz
      obtain ⟨z2_0, z2_1⟩ := d_cells HRd.out
      obtain ⟨z3_0, z3_1, z3_2, z3_3⟩ := p_cells0 HRp.out
      go_wp2_with fail
      clear z2_0 z2_1 z3_0 z3_1 z3_2 z3_3
      refine (rfind_val HD.out HZ.out).mono ?_
      rintro r w7 ⟨rfl, g⟩
      replace HB4 := Lib.hid (g.block HB4.out)
      replace HRd := Lib.hid (range_grew HRd.out g)
      replace HRp := Lib.hid (range_grew HRp.out g)
      replace HD := Lib.hid (HD.out.grew g)
      replace gg := gg.trans g
      clear g
      cases hhi : hasId d.ss p.id with
      | true =>
        have HE : Hid (sendE d p = 5) := send_two HVP.out hhi
        have HDD := Lib.hid (sendD_no HE.out (by decide))
        have hz0 := find_yes hhi
        rw [HZ.out] at hz0
        obtain ⟨kz, hkz, _⟩ := hz0
        subst hkz
        have q : decide ((kz : Int) ≥ 0) = true := decide_eq_true (by omega)
        have q' : decide (0 ≤ (kz : Int)) = true := decide_eq_true (by omega)
        clear hhi
        obtain ⟨y0, y1⟩ := d_cells (row_at (l := [.slice none 0 0, .slice none 0 0]) HB4.out)
        have f0 := row_free HB4.out 0
        have f1 := row_free HB4.out 1
        go_wp2_with fail
        refine bodyPost_ret (results_dsk rfl _ _ b4 _ rfl (set2 HB4.out _ _) rfl) rfl ?_
        exact ⟨none, 0, 0, none, 0, 0, ret_dsk HE.out.symm, by rw [HDD.out]; exact desk_nil _, (gg.set hb4 _).set hb4 _⟩
      | false =>
        have HHI := Lib.hid hhi
        have hz0 := findI_miss hhi
        rw [HZ.out] at hz0
        subst hz0
        clear hhi
        have q : decide ((-1 : Int) ≥ 0) = false := rfl
        by_cases hn : 400 ≤ n0
        · have q2 : decide ((n0 : Int) ≥ 400) = true := decide_eq_true (by omega)
          have q2' : decide ((400 : Int) ≤ (n0 : Int)) = true := decide_eq_true (by omega)
          have HE : Hid (sendE d p = 2) := send_lim HVP.out HHI.out (by rw [HL.out]; exact hn)
          have HDD := Lib.hid (sendD_no HE.out (by decide))
          obtain ⟨x0, x1⟩ := d_cells HRd.out
          obtain ⟨y0, y1⟩ := d_cells (row_at (l := [.slice none 0 0, .slice none 0 0]) HB4.out)
          have f0 := row_free HB4.out 0
          have f1 := row_free HB4.out 1
          go_wp2_with fail
          refine bodyPost_ret (results_dsk rfl _ _ b4 _ rfl (set2 HB4.out _ _) rfl) rfl ?_
          exact ⟨none, 0, 0, none, 0, 0, ret_dsk HE.out.symm, by rw [HDD.out]; exact desk_nil _, (gg.set hb4 _).set hb4 _⟩
        have q2 : decide ((n0 : Int) ≥ 400) = false := decide_eq_false (by omega)
        have q2' : decide ((400 : Int) ≤ (n0 : Int)) = false := decide_eq_false (by omega)
        have HE : Hid (sendE d p = 0) := send_ok HVP.out HHI.out (by rw [HL.out]; exact hn)
        have HDD := Lib.hid (sendD_ok HE.out)
        have hm : m0 ≤ 2000 := by rw [← HLA.out]; exact (valid_parts HV.out).2.1
        obtain ⟨x0, x1⟩ := d_cells HRd.out
        go_wp2_with fail
        clear x0 x1
        refine (copy_any _ _ _ _ _ _ d _ HD.out (by omega) (by omega)).mono ?_
        rintro r w8 ⟨A1, n1, c1, B1, m1, e1, rfl, hl1, hm1, own1, owa1, g⟩
        have hw8 : w.heap.size ≤ w7.heap.size := gg.le
        have h74 := (Array.getElem?_eq_some_iff.1 HB4.out).1
        have hlo4 : ∀ j, (Value.slice A1 n1 c1).ownBlock = some j → b4 < j := fun j hj => Nat.lt_of_lt_of_le h74 (own1.lt j hj).1
        have hla4 : ∀ j, (Value.slice B1 m1 e1).ownBlock = some j → b4 < j := fun j hj => Nat.lt_of_lt_of_le h74 (owa1.lt j hj).1
        have OW := Lib.hid (own_base own1 hw8)
        have OA := Lib.hid (own_base owa1 hw8)
        rw [HL.out] at hl1
        rw [HLA.out] at hm1
        subst hl1 hm1
        clear own1 owa1 hw8
        replace HB4 := Lib.hid (g.block HB4.out)
        replace HRd := Lib.hid (range_grew HRd.out g)
        replace HRp := Lib.hid (range_grew HRp.out g)
        replace HD := Lib.hid (HD.out.grew g)
        replace gg := gg.trans g
        clear g
        obtain ⟨w9, hw⟩ : ∃ y, y = w8.alloc (.cells #[.slice A1 n0 c1, .slice B1 m0 e1] 25) := ⟨_, rfl⟩
        have g : Grew w8 w9 := by rw [hw]; exact (Grew.refl _).alloc _
        obtain ⟨b6, hb⟩ : ∃ z, z = w8.heap.size := ⟨_, rfl⟩
        have HB6 : Hid (w9.heap[b6]? = some (.cells #[.slice A1 n0 c1, .slice B1 m0 e1] 25)) := by unfold Hid; rw [hw, hb]; exact heap_alloc_new _ _
        have hfar : ∀ j, (Value.slice A1 n0 c1).ownBlock = some j → j < b6 := fun j hj => by rw [hb]; exact (OW.out.lt j hj).2
        have hfaA : ∀ j, (Value.slice B1 m0 e1).ownBlock = some j → j < b6 := fun j hj => by rw [hb]; exact (OA.out.lt j hj).2
        have hb46 : b4 < b6 := by rw [hb]; exact (Array.getElem?_eq_some_iff.1 HB4.out).1
        have hwb6 : w.heap.size ≤ b6 := by omega
        replace HB4 := Lib.hid (g.block HB4.out)
        replace OW := Lib.hid (own_grew OW.out g)
        replace OA := Lib.hid (own_grew OA.out g)
        replace HRd := Lib.hid (range_grew HRd.out g)
        replace HRp := Lib.hid (range_grew HRp.out g)
        replace HD := Lib.hid (HD.out.grew g)
        replace gg := gg.trans g
        clear g
        go_upto_region 8 with (fail)
        rw [← hw, ← hb]
        clear hw hb
        have BI := Lib.hid (Recs.built (w := w9) se_ok (t := 43) (l := [(⟨p, 1, 0, 0⟩ : Sta)]) (n := 1) #[.int .i64 p.id, .string p.acc, .int .i64 p.c, .int .i64 p.d, .int .i64 1, .int .i64 0, .int .i64 0] rfl rfl (by decide))
        obtain ⟨x0, x1⟩ := d_cells (row_at (l := [.slice A1 n0 c1, .slice B1 m0 e1]) HB6.out)
        obtain ⟨p0, p1, p2, p3⟩ := p_cells0 HRp.out
        go_upto_region 9 with (at_builtin; refine wpList_append_sl _ rfl (.tmp 30) (.tmp 33) 22 rfl w.heap.size 43 i0 _ 7 64 Try.underlying22 hi hz0 hz1 hz2 rfl (by decide) (.slice A1 n0 c1) n0 _ rfl (OW.out.alloc _) (some ⟨w9.heap.size, 0, none⟩) 1 1 _ rfl BI.out.2 (flat_one se_ok _) (by unfold maxLen; omega) (by omega) (by have := gg.le; simp; omega) ?_; intro v3 w10 own3 hg3 hat3; obtain ⟨A3, c3, rfl⟩ := own_form own3; have hg3b := (OW.out.alloc (.cells #[.int .i64 p.id, .string p.acc, .int .i64 p.c, .int .i64 p.d, .int .i64 1, .int .i64 0, .int .i64 0] 43)).lt; have hne6 : ∀ j, (Value.slice A1 n0 c1).ownBlock = some j → j ≠ b6 := (fun j hj => by have := hfar j hj; omega); have HB6a : Hid (w10.heap[b6]? = some (.cells #[.slice A1 n0 c1, .slice B1 m0 e1] 25)) := (by unfold Hid; rw [hg3.block b6 (by have := (Array.getElem?_eq_some_iff.1 HB6.out).1; simp; omega) (fun e => hne6 b6 e.symm rfl)]; exact ((Grew.refl w9).alloc _).block HB6.out); obtain ⟨y0, y1⟩ := d_cells (row_at (l := [.slice A1 n0 c1, .slice B1 m0 e1]) HB6a.out); have f0 := row_free HB6a.out 0)
        clear x0 x1 p0 p1 p2 p3 y0 y1 f0
        have h69 := (Array.getElem?_eq_some_iff.1 HB6.out).1
        have hA3 : ∀ j, (Value.slice A3 (n0 + 1) c3).ownBlock = some j → j ≠ b6 ∧ j ≠ b4 := fun j hj => by
          rcases hat3 with h | h
          · rw [h] at hj
            have h1 := hfar j hj
            have h2 := hlo4 j hj
            omega
          · rw [h] at hj
            injection hj with hj
            simp at hj
            omega
        have hB1 : ∀ j, (Value.slice B1 m0 e1).ownBlock = some j → j ≠ b6 ∧ j ≠ b4 := fun j hj => by
          have h1 := hfaA j hj
          have h2 := hla4 j hj
          omega
        have HB4a : Hid (w10.heap[b4]? = some (.cells #[.slice none 0 0, .slice none 0 0] 25)) := by
          unfold Hid
          rw [hg3.block b4 (by simp; omega) (fun e => by have := hlo4 b4 e.symm; omega)]
          exact ((Grew.refl w9).alloc _).block HB4.out
        have OA10 : Hid (w10.ownsRow w.heap.size 29 5 (.slice B1 m0 e1) m0 (d.an.flatMap ae)) := own_keep (OA.out.alloc _) hg3 (fun k hk h9 => own_ne OW.out OA.out (by decide) hk h9)
        have OW10 : Hid (w10.ownsRow w.heap.size 43 7 (.slice A3 (n0 + 1) c3) (n0 + 1) ((d.ss ++ [(⟨p, 1, 0, 0⟩ : Sta)]).flatMap se)) := by unfold Hid; rw [List.flatMap_append]; exact own3
        have G10 : Grew w w10 := (gg.alloc _).grown hg3 (fun j hj => (OW.out.lt j hj).1)
        obtain ⟨w11, hw11⟩ : ∃ y, y = w10.setCell ⟨b6, 0, none⟩ (.slice A3 (n0 + 1) c3) := ⟨_, rfl⟩
        have hsg := set_grown w10 b6 0 (.slice A3 (n0 + 1) c3)
        have G11 : Grew w w11 := by rw [hw11]; exact G10.set hwb6 _
        have OW11 : Hid (w11.ownsRow w.heap.size 43 7 (.slice A3 (n0 + 1) c3) (n0 + 1) ((d.ss ++ [(⟨p, 1, 0, 0⟩ : Sta)]).flatMap se)) := by rw [hw11]; exact own_keep OW10.out hsg (fun k hk h9 => by injection hk with hk; exact (hA3 k h9).1 hk.symm)
        have OA11 : Hid (w11.ownsRow w.heap.size 29 5 (.slice B1 m0 e1) m0 (d.an.flatMap ae)) := by rw [hw11]; exact own_keep OA10.out hsg (fun k hk h9 => by injection hk with hk; exact (hB1 k h9).1 hk.symm)
        have HB4c : Hid (w11.heap[b4]? = some (.cells #[.slice none 0 0, .slice none 0 0] 25)) := by
          rw [hw11]
          unfold Hid
          rw [hsg.block b4 (Array.getElem?_eq_some_iff.1 HB4a.out).1 (fun e => by injection e with e; omega)]
          exact HB4a.out
        have HB6c : Hid (w11.heap[b6]? = some (.cells #[.slice A3 (n0 + 1) c3, .slice B1 m0 e1] 25)) := by
          rw [hw11]
          exact Go.heap_setCell_same w10 b6 0 _ 25 _ HB6a.out
        rw [← hw11]
        clear hw11 hsg own3 hg3 hat3 hg3b hne6 HB6a HB6 HB4 HB4a OW OA OA10 OW10 G10 BI HRd HRp HD gg hfar hfaA hlo4 hla4
        obtain ⟨x0, x1⟩ := d_cells (row_at (l := [.slice A3 (n0 + 1) c3, .slice B1 m0 e1]) HB6c.out)
        obtain ⟨y0, y1⟩ := d_cells (row_at (l := [.slice none 0 0, .slice none 0 0]) HB4c.out)
        have f0 := row_free HB4c.out 0
        have f1 := row_free HB4c.out 1
        go_wp2_with fail
        refine bodyPost_ret (results_dsk rfl _ _ b4 _ rfl (set2 HB4c.out _ _) rfl) rfl ?_
        refine ⟨A3, n0 + 1, c3, B1, m0, e1, ret_dsk HE.out.symm, ?_, (G11.set hb4 _).set hb4 _⟩
        rw [HDD.out]
        have k4 : ∀ (v : Value), (∀ j, v.ownBlock = some j → j ≠ b6 ∧ j ≠ b4) → ∀ k, some b4 = some k → v.ownBlock ≠ some k := fun v hv k hk h9 => by injection hk with hk; exact (hv k h9).2 hk.symm
        exact ⟨⟨Recs.own (by rw [List.length_append, HL.out]; rfl) (own_keep (own_keep OW11.out (set_grown _ b4 0 _) (k4 _ hA3)) (set_grown _ b4 1 _) (k4 _ hA3)), wf_snoc HWF.out hp⟩, Recs.own HLA.out (own_keep (own_keep OA11.out (set_grown _ b4 0 _) (k4 _ hB1)) (set_grown _ b4 1 _) (k4 _ hB1))⟩
end Go.Proofs.Ytaocjobbfcfleaa
