/-
  SettleBooks: the law's walk.
-/
import Derived.Test.YtaocjobbfcfleaaBal
namespace Go.Proofs.Ytaocjobbfcfleaa
open Go.RowKit Go.Proofs WageMem WageOrd WageRec WageMap WageReg WageSet
theorem clos_any (A : Option Addr) (n c : Nat) (es : List Ent) (acc : ByteArray) (b : Nat) (w : World) (h : Ents w A n c es) (hx : w.rangeAt b 0 [.slice A n c]) (he : ∀ e ∈ es, entB e = true) (hs : SortedE es) (hd : (es.map (·.id)).Nodup) (hn : n ≤ 2000) :
    Calls Try.prog 26 #[.string acc, .pointer (some ⟨b, 0, none⟩)] w fun r w' => r = .returned (.int .i64 (balL acc es)) ∧ Grew w w' := by
  have HH := Lib.hid h
  have HE := Lib.hid he
  have HS := Lib.hid hs
  have HN := Lib.hid hd
  have c0 := c_cell hx
  clear h he hs hd hx
  go_enter Try.func26, Try.ntmps26
  go_wp2_with fail
  refine (bal_any A n c es acc w HH.out HE.out HS.out HN.out hn).mono ?_
  rintro r w5 ⟨rfl, g⟩
  go_wp2_with fail
  go_ret
  exact ⟨rfl, g⟩
theorem clos_val {A : Option Addr} {n c : Nat} {es : List Ent} {acc : ByteArray} {b : Nat} {w : World} {z : Int} (h : Ents w A n c es) (hx : w.rangeAt b 0 [.slice A n c]) (he : ∀ e ∈ es, entB e = true) (hs : SortedE es) (hd : (es.map (·.id)).Nodup) (hn : n ≤ 2000) (hz : balL acc es = z) :
    Calls Try.prog 26 #[.string acc, .pointer (some ⟨b, 0, none⟩)] w fun r w' => r = .returned (.int .i64 z) ∧ Grew w w' := by
  subst hz; exact clos_any A n c es acc b w h hx he hs hd hn
set_option maxRecDepth 100000 in
set_option maxHeartbeats 16000000 in
theorem book_law (A0 : Option Addr) (n0 c0 : Nat) (B0 : Option Addr) (m0 e0 : Nat) (d : Desk) (w : World) (h : DeskIs w A0 n0 c0 B0 m0 e0 d) : Calls Try.prog 9 #[.agg #[.slice A0 n0 c0, .slice B0 m0 e0]] w fun e w' => e = .returned (.bool true) ∧ Grew w w' := by
  have HD := Lib.hid h
  clear h
  obtain ⟨b1, hb0⟩ : ∃ b, b = w.heap.size := ⟨_, rfl⟩
  obtain ⟨w1, hw0⟩ : ∃ x, x = w.alloc (.cells #[.slice A0 n0 c0, .slice B0 m0 e0] 25) := ⟨_, rfl⟩
  have g0 : Grew w w1 := by rw [hw0]; exact (Grew.refl w).alloc _
  have sz0 : w1.heap.size = w.heap.size + 1 := by rw [hw0]; simp
  have HRd : Hid (w1.rangeAt b1 0 [.slice A0 n0 c0, .slice B0 m0 e0]) := by
    unfold Hid
    rw [hb0]
    exact range_grew (by rw [hw0]; exact range_new w _ 25) (Grew.refl _)
  have gg : Grew w w1 := g0
  clear sz0 g0
  go_enter Try.func9, Try.ntmps9
  go_upto_region 1 with (fail)
  rw [← hw0]
  rw [← hb0]
  clear hw0 hb0
  replace HD := Lib.hid (HD.out.grew gg)
  go_wp2_with fail
  refine (head_true _).mono ?_
  rintro r w4 ⟨rfl, g⟩
  replace HRd := Lib.hid (range_grew HRd.out g)
  replace HD := Lib.hid (HD.out.grew g)
  replace gg := gg.trans g
  clear g
  obtain ⟨tv, htv⟩ : ∃ t, smallB d = t := ⟨_, rfl⟩
  obtain ⟨z0_0, z0_1⟩ := d_cells HRd.out
  go_wp2_with fail
  clear z0_0 z0_1
  refine (small_val HD.out htv).mono ?_
  rintro r w5 ⟨rfl, g⟩
  replace HRd := Lib.hid (range_grew HRd.out g)
  replace HD := Lib.hid (HD.out.grew g)
  replace gg := gg.trans g
  clear g
  cases tv with
  | false =>
    go_wp2_with fail
    go_ret
    exact ⟨rfl, gg⟩
  | true =>
    obtain ⟨tv, hvv⟩ : ∃ t, validB d = t := ⟨_, rfl⟩
    obtain ⟨z1_0, z1_1⟩ := d_cells HRd.out
    go_wp2_with fail
    clear z1_0 z1_1
    refine (rvalid_val HD.out hvv).mono ?_
    rintro r w6 ⟨rfl, g⟩
    replace HRd := Lib.hid (range_grew HRd.out g)
    replace HD := Lib.hid (HD.out.grew g)
    replace gg := gg.trans g
    clear g
    cases tv with
    | false =>
      go_wp2_with fail
      go_ret
      exact ⟨rfl, gg⟩
    | true =>
      have HV := Lib.hid hvv
      have LS := Lib.hid HD.out.1.1.1
      have hn30 : n0 ≤ 30 := by rw [← LS.out]; exact (small_parts htv).1
      have hel : (entL d).length ≤ 90 ∧ d.ss.length ≤ (entL d).length := by
        have h1 := ent_len_le hvv
        have h2 := small_parts htv
        refine ⟨by omega, ?_⟩
        rw [ent_len hvv, ents_form, List.length_append, List.length_map, paysOf_len]; omega
      have HOK := Lib.hid (ents_ok hvv)
      have HSO := Lib.hid (ents_sorted hvv)
      have HID := Lib.hid (ents_ids hvv)
      clear hvv htv
      obtain ⟨es, hes⟩ : ∃ l, entL d = l := ⟨_, rfl⟩
      have HES := Lib.hid hes
      rw [hes] at HOK HSO HID hel
      clear hes
      obtain ⟨z2_0, z2_1⟩ := d_cells HRd.out
      go_wp2_with fail
      clear z2_0 z2_1
      refine (entries_val HD.out HES.out).mono ?_
      rintro r w7 ⟨A1, n1, c1, rfl, hk1, g⟩
      replace HRd := Lib.hid (range_grew HRd.out g)
      replace HD := Lib.hid (HD.out.grew g)
      replace gg := gg.trans g
      clear g
      obtain ⟨w8, hw⟩ : ∃ y, y = w7.alloc (.cells #[.slice A1 n1 c1] 56) := ⟨_, rfl⟩
      have g : Grew w7 w8 := by rw [hw]; exact (Grew.refl _).alloc _
      obtain ⟨b8, hb⟩ : ∃ z, z = w7.heap.size := ⟨_, rfl⟩
      have HRl : Hid (w8.rangeAt b8 0 [.slice A1 n1 c1]) := by unfold Hid; rw [hw, hb]; exact range_new w7 _ 56
      have HL1 := Lib.hid (hk1.grew g)
      have hn1 : n1 ≤ 90 ∧ n0 ≤ n1 := by have h1 := hk1.1.1; have h2 := LS.out; omega
      clear hk1 hel
      replace HRd := Lib.hid (range_grew HRd.out g)
      replace HD := Lib.hid (HD.out.grew g)
      replace gg := gg.trans g
      clear g
      go_upto_region 5 with (fail)
      rw [← hw, ← hb]
      clear hw hb
      have cl0 := c_cell HRl.out
      go_wp2_with fail
      clear cl0
      refine (lvalid_true A1 n1 c1 es _ HL1.out HOK.out HSO.out HID.out (by omega)).mono ?_
      rintro r w9 ⟨rfl, g⟩
      replace HRd := Lib.hid (range_grew HRd.out g)
      replace HRl := Lib.hid (range_grew HRl.out g)
      replace HD := Lib.hid (HD.out.grew g)
      replace HL1 := Lib.hid (HL1.out.grew g)
      replace gg := gg.trans g
      clear g
      have q : decide ((n1 : Int) < (n0 : Int)) = false := decide_eq_false (by omega)
      have qn : decide (n1 < n0) = false := decide_eq_false (by omega)
      have cl0 := c_cell HRl.out
      obtain ⟨r0, r1⟩ := d_cells HRd.out
      go_wp2_with fail
      clear cl0 r0 r1 q qn
      go_loopw [6, 7, 39] (fun tr bk i y => ∃ k : Nat, k ≤ n0 ∧ i = .int .i64 k ∧ tr = .int .i64 (sm tranF (d.ss.take k)) ∧ bk = .int .i64 (sm bankF (d.ss.take k)) ∧ Grew w9 y) (fun _ _ i _ => n0 - (intOf i).toNat)
      case atStart => exact ⟨0, Nat.zero_le _, rfl, rfl, rfl, Grew.refl _⟩
      case round =>
        obtain ⟨k, hk, rfl, rfl, rfl, hg⟩ := hrel
        have htb := tran_bound HV.out k
        obtain ⟨T, hT⟩ : ∃ Z, sm tranF (d.ss.take k) = Z := ⟨_, rfl⟩
        obtain ⟨Q, hQ⟩ : ∃ Z, sm bankF (d.ss.take k) = Z := ⟨_, rfl⟩
        have HT := Lib.hid hT
        have HQ := Lib.hid hQ
        rw [hT, hQ] at htb ⊢
        clear hT hQ
        by_cases hlt : k < n0
        · obtain ⟨b, o, x, hAx, hx, hr⟩ := (HD.out.1.1.grew hg).at_ se_ok hlt
          have HX := Lib.hid hx
          have hxm := List.mem_of_getElem? hx
          have hbd := sta_bound HV.out hxm
          have hpp := pay_parts (valid_sta HV.out hxm).1
          have HBA := Lib.hid (bal_acc HV.out hpp.2.2.1 hpp.2.2.2.1)
          rw [HES.out] at HBA
          obtain ⟨sp, hsp⟩ : ∃ z, spentL d x.p.acc = z := ⟨_, rfl⟩
          have HSP := Lib.hid hsp
          rw [hsp] at HBA
          have qs : (sp != sp) = false := by simp
          have k0 : (0 : Int) ≤ (k : Int) := by omega
          have k1 : (k : Int) < (n0 : Int) := by omega
          obtain ⟨c0', c1', c2, c3, c4, c5, c6⟩ := s_cells hr
          obtain ⟨wa, hwa⟩ : ∃ y, y = wr.alloc (.cells #[.int .i64 x.p.id, .string x.p.acc, .int .i64 x.p.c, .int .i64 x.p.d, .int .i64 x.st, .int .i64 x.pd, .int .i64 x.bk] 43) := ⟨_, rfl⟩
          have ga : Grew wr wa := by rw [hwa]; exact (Grew.refl wr).alloc _
          obtain ⟨bx, hbx⟩ : ∃ b, b = wr.heap.size := ⟨_, rfl⟩
          have HRX : Hid (wa.rangeAt bx 0 (se x)) := by unfold Hid; rw [hwa, hbx]; exact range_new wr (se x) 43
          have gA := hg.trans ga
          subst hAx
          clear hr hx hsp hxm hpp hg ga
          go_upto_region 12 with (fail)
          rw [← hwa, ← hbx]
          clear hwa hbx c0' c1' c2 c3 c4 c5 c6
          have gAd := gA.drew
          have HRXd := Lib.hid (range_grew HRX.out (Grew.refl wa).drew)
          have HRdd := Lib.hid (range_grew HRd.out gAd)
          have HRld := Lib.hid (range_grew HRl.out gAd)
          have HDd := Lib.hid (HD.out.grew gAd)
          have HLd := Lib.hid (HL1.out.grew gAd)
          have hC : ∀ w', Grew wa.drew w' → (w'.cell? ⟨b1, 0, none⟩ = some (.slice (some ⟨b, o, none⟩) n0 c0) ∧ w'.cell? ⟨b1, 1, none⟩ = some (.slice B0 m0 e0)) ∧ (w'.cell? ⟨bx, 0, none⟩ = some (.int .i64 x.p.id) ∧ w'.cell? ⟨bx, 1, none⟩ = some (.string x.p.acc) ∧ w'.cell? ⟨bx, 2, none⟩ = some (.int .i64 x.p.c) ∧ w'.cell? ⟨bx, 3, none⟩ = some (.int .i64 x.p.d) ∧ w'.cell? ⟨bx, 4, none⟩ = some (.int .i64 x.st) ∧ w'.cell? ⟨bx, 5, none⟩ = some (.int .i64 x.pd) ∧ w'.cell? ⟨bx, 6, none⟩ = some (.int .i64 x.bk)) := fun w' g' => ⟨d_cells (range_grew HRdd.out g'), s_cells0 (range_grew HRXd.out g')⟩
          refine wp_region_seq (by kernel_rfl) Grew.refl (fun _ _ _ => Grew.trans) (fun _ _ _ _ _ h => h) (by kernel_rfl) ?_
          repeat (first
            | (refine TakeAll.pure (v := ?_) (by rfl) ?_ ?_; rotate_left; (intro w' g'; obtain ⟨⟨r0, r1⟩, x0, x1, x2, x3, x4, x5, x6⟩ := hC w' g'; go_simp; first | done | with_reducible rfl); (simp only [Act.put, List.setIfInBounds_toArray, List.set_cons_zero, List.set_cons_succ]))
            | (refine TakeAll.skip (by rfl) ?_; (simp only [Act.put, List.setIfInBounds_toArray, List.set_cons_zero, List.set_cons_succ])))
          refine TakeAll.call (by rfl) 26 _ (fun _ => by go_simp; first | done | rfl) (fun w' g' => clos_val (HLd.out.grew g') (range_grew HRld.out g') HOK.out HSO.out HID.out (by omega) HBA.out) ?_
          simp only [Act.put, List.setIfInBounds_toArray, List.set_cons_zero, List.set_cons_succ]
          repeat (first
            | (refine TakeAll.pure (v := ?_) (by rfl) ?_ ?_; rotate_left; (intro w' g'; obtain ⟨⟨r0, r1⟩, x0, x1, x2, x3, x4, x5, x6⟩ := hC w' g'; go_simp; first | done | with_reducible rfl); (simp only [Act.put, List.setIfInBounds_toArray, List.set_cons_zero, List.set_cons_succ]))
            | (refine TakeAll.skip (by rfl) ?_; (simp only [Act.put, List.setIfInBounds_toArray, List.set_cons_zero, List.set_cons_succ])))
          refine TakeAll.call (by rfl) 16 _ (fun _ => by go_simp; first | done | rfl) (fun w' g' => spent_val (HDd.out.grew g') HSP.out) ?_
          simp only [Act.put, List.setIfInBounds_toArray, List.set_cons_zero, List.set_cons_succ]
          repeat (first
            | (refine TakeAll.pure (v := ?_) (by rfl) ?_ ?_; rotate_left; (intro w' g'; obtain ⟨⟨r0, r1⟩, x0, x1, x2, x3, x4, x5, x6⟩ := hC w' g'; go_simp; first | done | with_reducible rfl); (simp only [Act.put, List.setIfInBounds_toArray, List.set_cons_zero, List.set_cons_succ]))
            | (refine TakeAll.skip (by rfl) ?_; (simp only [Act.put, List.setIfInBounds_toArray, List.set_cons_zero, List.set_cons_succ])))
          refine TakeAll.nil ?_
          intro wd gd
          have gE := gAd.trans gd
          have HRXe := Lib.hid (range_grew HRXd.out gd)
          clear hC HRXd HRdd HRld HDd HLd HRX gAd gA
          have HTN : Hid (sm tranF (d.ss.take (k + 1)) = T + tranF x) := by unfold Hid; rw [sm_take _ HX.out, HT.out]
          have HQN : Hid (sm bankF (d.ss.take (k + 1)) = Q + bankF x) := by unfold Hid; rw [sm_take _ HX.out, HQ.out]
          obtain ⟨x0, x1, x2, x3, x4, x5, x6⟩ := s_cells0 HRXe.out
          have hw1 : IntKind.i64.wrap (x.p.c - x.pd) = x.p.c - x.pd := IntWalk.i64_in _ (by omega)
          have hw2 : IntKind.i64.wrap (T + (x.p.c - x.pd)) = T + (x.p.c - x.pd) := IntWalk.i64_in _ (by omega)
          have hw3 : IntKind.i64.wrap (x.pd - x.bk) = x.pd - x.bk := IntWalk.i64_in _ (by omega)
          have hw4 : IntKind.i64.wrap (Q + (x.pd - x.bk)) = Q + (x.pd - x.bk) := IntWalk.i64_in _ (by omega)
          by_cases hst : x.st = 4
          · have q4 : (x.st != 4) = false := by simpa using hst
            have HLF : Hid (T + tranF x = T) := by unfold Hid tranF; rw [if_neg (by omega)]; omega
            clear hst
            go_wp2_with fail
            go_roundw
            case rel => exact ⟨k + 1, by omega, by go_num, by rw [HTN.out, HLF.out], by rw [HQN.out]; rfl, gE⟩
            case measure => simp [intOf]; omega
          · have q4 : (x.st != 4) = true := by simpa using hst
            have HLF : Hid (T + tranF x = T + (x.p.c - x.pd)) := by unfold Hid tranF; rw [if_pos hst]
            clear hst
            go_wp2_with fail
            go_roundw
            case rel => exact ⟨k + 1, by omega, by go_num, by rw [HTN.out, HLF.out], by rw [HQN.out]; rfl, gE⟩
            case measure => simp [intOf]; omega
        · obtain rfl : n0 = k := by omega
          have HBT : Hid (balL transit es = -T) := by unfold Hid; rw [← HES.out, bal_transit HV.out, ← HT.out, ← LS.out, List.take_length]
          have HBB : Hid (balL bank es = -Q) := by unfold Hid; rw [← HES.out, bal_bank HV.out, ← HQ.out, ← LS.out, List.take_length]
          have hw1 : IntKind.i64.wrap (-T) = -T := IntWalk.i64_in _ (by omega)
          have hw2 : IntKind.i64.wrap (-Q) = -Q := IntWalk.i64_in _ (by omega)
          have q1 : ((-T : Int) == -T) = true := by simp
          have q2 : ((-Q : Int) == -Q) = true := by simp
          have g := hg
          replace HRd := Lib.hid (range_grew HRd.out g)
          replace HRl := Lib.hid (range_grew HRl.out g)
          replace HD := Lib.hid (HD.out.grew g)
          replace HL1 := Lib.hid (HL1.out.grew g)
          replace gg := gg.trans g
          clear g hg
          go_wp2_with fail
          refine (clos_val (acc := transit) HL1.out HRl.out HOK.out HSO.out HID.out (by omega) HBT.out).mono ?_
          rintro r w11 ⟨rfl, g⟩
          replace HRd := Lib.hid (range_grew HRd.out g)
          replace HRl := Lib.hid (range_grew HRl.out g)
          replace HD := Lib.hid (HD.out.grew g)
          replace HL1 := Lib.hid (HL1.out.grew g)
          replace gg := gg.trans g
          clear g
          go_wp2_with fail
          refine (clos_val (acc := bank) HL1.out HRl.out HOK.out HSO.out HID.out (by omega) HBB.out).mono ?_
          rintro r w12 ⟨rfl, g⟩
          replace HRd := Lib.hid (range_grew HRd.out g)
          replace HRl := Lib.hid (range_grew HRl.out g)
          replace HD := Lib.hid (HD.out.grew g)
          replace HL1 := Lib.hid (HL1.out.grew g)
          replace gg := gg.trans g
          clear g
          go_wp2_with fail
          go_ret
          exact ⟨rfl, gg⟩
end Go.Proofs.Ytaocjobbfcfleaa
