/-
  The reference's insert: an entry at its place.
-/
import Derived.Test.YtaocjobbfcfleaaEntries
import Derived.Test.YtaocjobbfcfleaaLawR
namespace WageSet
def posE (x : Ent) (l : List Ent) : Nat := (l.takeWhile fun a => ltEB a x).length
theorem posE_eq {x : Ent} : ∀ {l : List Ent} {i : Nat}, i ≤ l.length → (∀ t y, t < i → l[t]? = some y → ltEB y x = true) → (∀ y, l[i]? = some y → ltEB y x = false) → posE x l = i
  | [], i, hi, _, _ => by simp at hi; subst hi; rfl
  | a :: l, 0, _, _, h2 => by
    have := h2 a rfl
    unfold posE
    rw [List.takeWhile_cons_of_neg (by simp [this])]; rfl
  | a :: l, i + 1, hi, h1, h2 => by
    have := h1 0 a (by omega) rfl
    have ih := posE_eq (x := x) (l := l) (i := i) (by simpa using hi) (fun t y ht hy => h1 (t + 1) y (by omega) (by simpa using hy)) (fun y hy => h2 y (by simpa using hy))
    unfold posE at ih ⊢
    rw [List.takeWhile_cons_of_pos (by simpa using this), List.length_cons, ih]
theorem insE_pos (x : Ent) : ∀ l : List Ent, insE x l = l.take (posE x l) ++ x :: l.drop (posE x l)
  | [] => rfl
  | a :: l => by
    unfold insE posE
    by_cases h : ltEB a x = true
    · rw [if_pos h, List.takeWhile_cons_of_pos (p := fun a => ltEB a x) h, List.length_cons, List.take_succ_cons, List.drop_succ_cons, insE_pos x l]; rfl
    · rw [if_neg h, List.takeWhile_cons_of_neg (p := fun a => ltEB a x) h]; rfl
theorem insE_at {x : Ent} {l : List Ent} {k : Nat} (h : posE x l = k) : insE x l = l.take k ++ x :: l.drop k := by rw [insE_pos, h]
end WageSet
namespace Go.Proofs.Ytaocjobbfcfleaa
open Go.RowKit Go.Proofs WageMem WageOrd WageRec WageMap WageReg WageSet
theorem size50 (w : World) : (Go.sizeOf (Try.prog.elem 38)).run Try.prog w = .ok 6 w := by kernel_rfl
theorem elem38 : Try.prog.underlying 38 = some (.slice (Try.prog.elem 38)) := by kernel_rfl
set_option maxRecDepth 100000 in
set_option maxHeartbeats 32000000 in
theorem insert_any (A : Option Addr) (n c : Nat) (l : List Ent) (x : Ent) (w : World) (h : Ents w A n c l) (hn : n ≤ 5000) : Calls Try.prog 48 #[.slice A n c, nv x] w (RetE ne 6 50 (insE x l) w) := by
  obtain ⟨i0, hi, hz0, hz1, hz2⟩ := info_parts info50
  have HH := Lib.hid h.1
  have HL := Lib.hid h.1.1
  have hcap := h.1.2.1
  have hcm : c ≤ 9223372036854775807 := h.1.2.2.1
  clear h
  show Calls Try.prog 48 #[.slice A n c, .agg #[.int .i64 x.id, .string x.de, .string x.cr, .int .i64 x.c, .int .i64 x.d, .int .i64 x.b]] w _
  obtain ⟨b1, hb0⟩ : ∃ b, b = w.heap.size := ⟨_, rfl⟩
  obtain ⟨w1, hw1⟩ : ∃ y, y = w.alloc (.cells #[.int .i64 x.id, .string x.de, .string x.cr, .int .i64 x.c, .int .i64 x.d, .int .i64 x.b] 50) := ⟨_, rfl⟩
  have gg : Grew w w1 := by rw [hw1]; exact (Grew.refl w).alloc _
  have HRX : Hid (w1.rangeAt b1 0 (ne x)) := by unfold Hid; rw [hw1, hb0]; exact range_new w (ne x) 50
  go_enter Try.func48, Try.ntmps48
  go_upto_region 1 with (fail)
  rw [← hw1, ← hb0]
  clear hw1 hb0
  go_wp2_with fail
  go_loopw [5] (fun i y => ∃ k : Nat, k ≤ n ∧ i = .int .i64 k ∧ Hid (∀ t y, t < k → l[t]? = some y → ltEB y x = true) ∧ Grew w1 y) (fun i _ => n - (intOf i).toNat)
  case atStart => exact ⟨0, Nat.zero_le _, rfl, (fun t y ht _ => by omega), Grew.refl _⟩
  case round =>
    obtain ⟨k, hk, rfl, HLT, hg⟩ := hrel
    by_cases hlt : k < n
    · obtain ⟨b, o, y, hAy, hy, hr⟩ := (HH.out.grew ((gg.trans hg).drew)).at_ ne_ok hlt
      have HY := Lib.hid hy
      have k0 : (0 : Int) ≤ (k : Int) := by omega
      have k1 : (k : Int) < (n : Int) := by omega
      have qk : decide ((k : Int) < (n : Int)) = true := decide_eq_true k1
      have HRXd := Lib.hid (range_grew HRX.out hg.drew)
      have hC : ∀ w', Grew wr.drew w' → (w'.cell? ⟨b1, 0, none⟩ = some (.int .i64 x.id) ∧ w'.cell? ⟨b1, 1, none⟩ = some (.string x.de) ∧ w'.cell? ⟨b1, 2, none⟩ = some (.string x.cr) ∧ w'.cell? ⟨b1, 3, none⟩ = some (.int .i64 x.c) ∧ w'.cell? ⟨b1, 4, none⟩ = some (.int .i64 x.d) ∧ w'.cell? ⟨b1, 5, none⟩ = some (.int .i64 x.b)) ∧ (w'.cell? ⟨b, o + k * 6, none⟩ = some (.int .i64 y.id) ∧ w'.cell? ⟨b, o + k * 6 + 1, none⟩ = some (.string y.de) ∧ w'.cell? ⟨b, o + k * 6 + 2, none⟩ = some (.string y.cr) ∧ w'.cell? ⟨b, o + k * 6 + 3, none⟩ = some (.int .i64 y.c) ∧ w'.cell? ⟨b, o + k * 6 + 4, none⟩ = some (.int .i64 y.d) ∧ w'.cell? ⟨b, o + k * 6 + 5, none⟩ = some (.int .i64 y.b)) := fun w' g' => ⟨n_cells0 (range_grew HRXd.out g'), n_cells (range_grew hr g')⟩
      subst hAy
      clear hr hy
      by_cases h1 : y.b < x.b
      · have q1 : decide (y.b < x.b) = true := decide_eq_true h1
        have HB : ltEB y x = true := ltEB_iff.2 (.inl h1)
        clear h1
        have HLT2 : Hid (∀ t y, t < k + 1 → l[t]? = some y → ltEB y x = true) := fun t z ht hz => by
          by_cases e : t < k
          · exact HLT.out t z e hz
          · obtain rfl : t = k := by omega
            rw [HY.out] at hz; injection hz with hz; subst hz; exact HB
        go_wp2_with fail
        refine wp_region_seq (by kernel_rfl) Grew.refl (fun _ _ _ => Grew.trans) (fun _ _ _ _ _ h => h) (by kernel_rfl) ?_
        repeat (first
          | (refine TakeAll.pure (v := ?_) (by rfl) ?_ ?_; rotate_left; (intro w' g'; obtain ⟨⟨x0, x1, x2, x3, x4, x5⟩, y0, y1, y2, y3, y4, y5⟩ := hC w' g'; go_simp; first | done | with_reducible rfl); (simp only [Act.put, List.setIfInBounds_toArray, List.set_cons_zero, List.set_cons_succ]))
          | (refine TakeAll.skip (by rfl) ?_; (simp only [Act.put, List.setIfInBounds_toArray, List.set_cons_zero, List.set_cons_succ])))
        refine TakeAll.nil ?_
        intro wd gd
        have gE := hg.drew.trans gd
        clear hC HRXd
        go_wp2_with fail
        go_roundw
        case rel => exact ⟨k + 1, by omega, by go_num, HLT2, gE⟩
        case measure => simp [intOf]; omega
      · have q1 : decide (y.b < x.b) = false := decide_eq_false h1
        by_cases h2 : y.b = x.b
        · have q2 : (y.b == x.b) = true := by simpa using h2
          by_cases h3 : y.id < x.id
          · have q3 : decide (y.id < x.id) = true := decide_eq_true h3
            have HB : ltEB y x = true := ltEB_iff.2 (.inr ⟨h2, h3⟩)
            clear h1 h2 h3
            have HLT2 : Hid (∀ t y, t < k + 1 → l[t]? = some y → ltEB y x = true) := fun t z ht hz => by
              by_cases e : t < k
              · exact HLT.out t z e hz
              · obtain rfl : t = k := by omega
                rw [HY.out] at hz; injection hz with hz; subst hz; exact HB
            go_wp2_with fail
            refine wp_region_seq (by kernel_rfl) Grew.refl (fun _ _ _ => Grew.trans) (fun _ _ _ _ _ h => h) (by kernel_rfl) ?_
            repeat (first
              | (refine TakeAll.pure (v := ?_) (by rfl) ?_ ?_; rotate_left; (intro w' g'; obtain ⟨⟨x0, x1, x2, x3, x4, x5⟩, y0, y1, y2, y3, y4, y5⟩ := hC w' g'; go_simp; first | done | with_reducible rfl); (simp only [Act.put, List.setIfInBounds_toArray, List.set_cons_zero, List.set_cons_succ]))
              | (refine TakeAll.skip (by rfl) ?_; (simp only [Act.put, List.setIfInBounds_toArray, List.set_cons_zero, List.set_cons_succ])))
            refine TakeAll.nil ?_
            intro wd gd
            have gE := hg.drew.trans gd
            clear hC HRXd
            go_wp2_with fail
            go_roundw
            case rel => exact ⟨k + 1, by omega, by go_num, HLT2, gE⟩
            case measure => simp [intOf]; omega
          · have q3 : decide (y.id < x.id) = false := decide_eq_false h3
            have HB : ltEB y x = false := by rw [Bool.eq_false_iff]; intro h; rcases ltEB_iff.1 h with h | h <;> omega
            clear h1 h2 h3
            have HPOS : Hid (posE x l = k) := posE_eq (by rw [HL.out]; exact hk) HLT.out (fun z hz => by rw [HY.out] at hz; injection hz with hz; subst hz; exact HB)
            go_wp2_with fail
            refine wp_region_seq (by kernel_rfl) Grew.refl (fun _ _ _ => Grew.trans) (fun _ _ _ _ _ h => h) (by kernel_rfl) ?_
            repeat (first
              | (refine TakeAll.pure (v := ?_) (by rfl) ?_ ?_; rotate_left; (intro w' g'; obtain ⟨⟨x0, x1, x2, x3, x4, x5⟩, y0, y1, y2, y3, y4, y5⟩ := hC w' g'; go_simp; first | done | with_reducible rfl); (simp only [Act.put, List.setIfInBounds_toArray, List.set_cons_zero, List.set_cons_succ]))
              | (refine TakeAll.skip (by rfl) ?_; (simp only [Act.put, List.setIfInBounds_toArray, List.set_cons_zero, List.set_cons_succ])))
            refine TakeAll.nil ?_
            intro wd gd
            have gE := hg.drew.trans gd
            clear hC HRXd
            skip
            go_upto_region 5 with (fail)
            obtain ⟨wx, hwx⟩ : ∃ y, y = wd.drew := ⟨_, rfl⟩
            have gx : Grew wd wx := by rw [hwx]; exact (Grew.refl wd).drew
            have HRd := Lib.hid (range_grew HRX.out (gE.trans gx))
            have HHd := Lib.hid (HH.out.grew ((gg.trans gE).trans gx))
            have SH := Lib.hid (HHd.out.head ne_ok (q := k) (k := c) hk (by omega) (Nat.le_refl _)).2
            have ST := Lib.hid (HHd.out.tail ne_ok hk).2
            have hw0 : w.heap.size ≤ wx.heap.size := ((gg.trans gE).trans gx).le
            have r1 : ∀ x, (Instr.slice 38 (.slice (some ⟨b, o, none⟩) n c) none (some (.int .i64 (k : Int))) none).run Try.prog x = .ok (.slice (some ⟨b, o, none⟩) k c) x := fun x => run_slice_head x 38 6 elem38 (size50 x) (some ⟨b, o, none⟩) n c k _ (by omega)
            have r2 : ∀ x, (Instr.slice 38 (.slice (some ⟨b, o, none⟩) n c) (some (.int .i64 (k : Int))) none none).run Try.prog x = .ok (.slice (tailA (some ⟨b, o, none⟩) c k 6) (n - k) (c - k)) x := fun x => run_slice_tail x 38 6 elem38 (size50 x) (some ⟨b, o, none⟩) n c k _ (by omega)
            have hC : ∀ w', Grew wx w' → w'.cell? ⟨b1, 0, none⟩ = some (.int .i64 x.id) ∧ w'.cell? ⟨b1, 1, none⟩ = some (.string x.de) ∧ w'.cell? ⟨b1, 2, none⟩ = some (.string x.cr) ∧ w'.cell? ⟨b1, 3, none⟩ = some (.int .i64 x.c) ∧ w'.cell? ⟨b1, 4, none⟩ = some (.int .i64 x.d) ∧ w'.cell? ⟨b1, 5, none⟩ = some (.int .i64 x.b) := fun w' g' => n_cells0 (range_grew HRd.out g')
            refine wp_region_H (by kernel_rfl) (fun w' => Grew wx w') ?_
            rw [← hwx]
            clear hwx
            refine wpAnyH_takes (fun _ _ _ _ _ h => h) (Grew.refl _) [0, 1, 2, 3, 5] (fuel' := 4) (by kernel_rfl) (by kernel_rfl) (by simp only [pickOps, List.getElem?_toArray, List.getElem?_cons_zero, List.getElem?_cons_succ]; rfl) ?_
            repeat (first
              | (refine TakeP.pure (v := ?_) (by rfl) ?_ ?_; rotate_left; (intro w' g'; obtain ⟨e0, e1, e2, e3, e4, e5⟩ := hC w' g'; go_simp; first | done | with_reducible rfl); (simp only [Act.put, List.setIfInBounds_toArray, List.set_cons_zero, List.set_cons_succ])))
            refine TakeP.nil ?_
            refine wpAnyH_two (i := 4) (j := 6) (by kernel_rfl) (fuel' := 3) (by kernel_rfl) (by simp only [pickOps, List.getElem?_toArray, List.getElem?_cons_zero, List.getElem?_cons_succ]; rfl) rfl (by simp only [pickOps, List.getElem?_toArray, List.getElem?_cons_zero, List.getElem?_cons_succ]; rfl) rfl ?_ ?_
            · intro K hK
              refine wp_append_sl _ (.tmp 43) (.tmp 46) 38 rfl wx.heap.size 50 i0 _ 6 64 Try.underlying38 hi hz0 hz1 hz2 rfl (by decide) (.slice none 0 0) 0 _ rfl (World.ownsRow_nil _ _ _ _) (some ⟨b, o, none⟩) k c _ rfl (SH.out.grew (Grew.refl _)) (flat_one ne_ok _) (by unfold maxLen; omega) (by omega) ((Grew.refl _)).le ?_
              intro v3 w3 own3 hg3 hat3
              obtain ⟨A3, c3, rfl⟩ := own_form own3
              rw [Nat.zero_add, List.nil_append] at own3
              have S3 : Grew wx w3 := ((Grew.refl _)).grown hg3 (fun j hj => by cases hj)
              rw [Nat.zero_add]
              refine hK _ _ S3 ?_
              clear hK K
              simp only [Act.put, List.setIfInBounds_toArray, List.set_cons_zero, List.set_cons_succ]
              clear hat3
              have OW3 := Lib.hid own3
              clear own3 hg3
              refine wpAnyH_step (i := 6) (by kernel_rfl) (fuel' := 2) (by kernel_rfl) (by simp only [pickOps, List.getElem?_toArray, List.getElem?_cons_zero, List.getElem?_cons_succ]; rfl) (by rfl) ?_
              intro K hK
              go_simp
              have S4 := S3.alloc (.cells #[.int .i64 x.id, .string x.de, .string x.cr, .int .i64 x.c, .int .i64 x.d, .int .i64 x.b] 50)
              refine hK _ _ S4 ?_
              clear hK K
              have BI := Lib.hid (Recs.built (w := w3) ne_ok (t := 50) (l := [x]) (n := 1) #[.int .i64 x.id, .string x.de, .string x.cr, .int .i64 x.c, .int .i64 x.d, .int .i64 x.b] rfl rfl (by decide))
              have OW4 := Lib.hid (OW3.out.alloc (.cells #[.int .i64 x.id, .string x.de, .string x.cr, .int .i64 x.c, .int .i64 x.d, .int .i64 x.b] 50))
              obtain ⟨w4, hw4⟩ : ∃ y, y = w3.alloc (.cells #[.int .i64 x.id, .string x.de, .string x.cr, .int .i64 x.c, .int .i64 x.d, .int .i64 x.b] 50) := ⟨_, rfl⟩
              rw [← hw4] at S4 BI OW4 ⊢
              obtain ⟨b4, hb4⟩ : ∃ z, z = w3.heap.size := ⟨_, rfl⟩
              rw [← hb4] at BI ⊢
              clear hw4 hb4 OW3 S3
              refine wpAnyH_step (i := 7) (by kernel_rfl) (fuel' := 1) (by kernel_rfl) (by simp only [pickOps, List.getElem?_toArray, List.getElem?_cons_zero, List.getElem?_cons_succ]; rfl) (by rfl) ?_
              intro K hK
              refine wp_append_sl _ (.tmp 47) (.tmp 49) 38 rfl wx.heap.size 50 i0 _ 6 64 Try.underlying38 hi hz0 hz1 hz2 rfl (by decide) (.slice A3 k c3) k _ rfl OW4.out (some ⟨b4, 0, none⟩) 1 1 _ rfl BI.out.2 (flat_one ne_ok _) (by unfold maxLen; omega) (by omega) S4.le ?_
              intro v5 w5 own5 hg5 hat5
              obtain ⟨A5, c5, rfl⟩ := own_form own5
              have S5 : Grew wx w5 := S4.grown hg5 (fun j hj => (OW4.out.lt j hj).1)
              refine hK _ _ S5 ?_
              clear hK K
              simp only [Act.put, List.setIfInBounds_toArray, List.set_cons_zero, List.set_cons_succ]
              have OW5 := Lib.hid own5
              clear own5 hg5 hat5 OW4 BI S4
              refine wpAnyH_takes (fun _ _ _ _ _ h => h) S5 [8] (fuel' := 0) (by kernel_rfl) (by kernel_rfl) (by simp only [pickOps, List.getElem?_toArray, List.getElem?_cons_zero, List.getElem?_cons_succ]; rfl) ?_
              repeat (first
                | (refine TakeP.pure (v := ?_) (by rfl) ?_ ?_; rotate_left; (intro w' g'; go_simp; first | done | with_reducible rfl); (simp only [Act.put, List.setIfInBounds_toArray, List.set_cons_zero, List.set_cons_succ])))
              refine TakeP.nil ?_
              refine wpAnyH_done (by kernel_rfl) ?_ _
              clear hC
              have ST5 := Lib.hid (ST.out.grew S5)
              go_wp2_with (at_builtin; refine wpList_append_sl _ rfl (.tmp 51) (.tmp 54) 38 rfl w.heap.size 50 i0 _ 6 64 Try.underlying38 hi hz0 hz1 hz2 rfl (by decide) (.slice A5 (k + 1) c5) (k + 1) _ rfl (own_base OW5.out hw0) (tailA (some ⟨b, o, none⟩) c k 6) (n - k) (c - k) _ rfl ST5.out (flat_one ne_ok _) (by unfold maxLen; omega) (by omega) (Nat.le_trans hw0 S5.le) ?_; intro v7 w7 own7 hg7 hat7; obtain ⟨A7, c7, rfl⟩ := own_form own7)
              have gE7 : Grew w w7 := ((gg.trans gE).trans (gx.trans S5)).grown hg7 (fun j hj => Nat.le_trans hw0 (OW5.out.lt j hj).1)
              have HIX := insE_at HPOS.out
              go_ret
              refine ⟨A7, _, c7, rfl, ?_, ?_, gE7⟩
              · rw [HIX, List.length_append, List.length_cons, List.length_take, List.length_drop, HL.out]; omega
              · rw [HIX, List.flatMap_append, List.flatMap_cons]
                have h7 := own7
                simp only [List.flatMap_cons, List.flatMap_nil, List.append_nil, List.append_assoc] at h7
                exact h7
            · intro K hK
              go_simp
              have S0 := (Grew.refl wx).alloc (.cells #[.int .i64 x.id, .string x.de, .string x.cr, .int .i64 x.c, .int .i64 x.d, .int .i64 x.b] 50)
              refine hK _ _ S0 ?_
              clear hK K
              have BI := Lib.hid (Recs.built (w := wx) ne_ok (t := 50) (l := [x]) (n := 1) #[.int .i64 x.id, .string x.de, .string x.cr, .int .i64 x.c, .int .i64 x.d, .int .i64 x.b] rfl rfl (by decide))
              obtain ⟨w2, hw2⟩ : ∃ y, y = wx.alloc (.cells #[.int .i64 x.id, .string x.de, .string x.cr, .int .i64 x.c, .int .i64 x.d, .int .i64 x.b] 50) := ⟨_, rfl⟩
              rw [← hw2] at S0 BI ⊢
              obtain ⟨b4, hb4⟩ : ∃ z, z = wx.heap.size := ⟨_, rfl⟩
              rw [← hb4] at BI ⊢
              clear hw2 hb4
              refine wpAnyH_step (i := 4) (by kernel_rfl) (fuel' := 2) (by kernel_rfl) (by simp only [pickOps, List.getElem?_toArray, List.getElem?_cons_zero, List.getElem?_cons_succ]; rfl) (by rfl) ?_
              intro K hK
              refine wp_append_sl _ (.tmp 43) (.tmp 46) 38 rfl wx.heap.size 50 i0 _ 6 64 Try.underlying38 hi hz0 hz1 hz2 rfl (by decide) (.slice none 0 0) 0 _ rfl (World.ownsRow_nil _ _ _ _) (some ⟨b, o, none⟩) k c _ rfl (SH.out.grew S0) (flat_one ne_ok _) (by unfold maxLen; omega) (by omega) (S0).le ?_
              intro v3 w3 own3 hg3 hat3
              obtain ⟨A3, c3, rfl⟩ := own_form own3
              rw [Nat.zero_add, List.nil_append] at own3
              have S3 : Grew wx w3 := (S0).grown hg3 (fun j hj => by cases hj)
              rw [Nat.zero_add]
              refine hK _ _ S3 ?_
              clear hK K
              simp only [Act.put, List.setIfInBounds_toArray, List.set_cons_zero, List.set_cons_succ]
              clear hat3
              have g3 : Grew w2 w3 := (Grew.refl w2).grown hg3 (fun j hj => by cases hj)
              replace BI := Lib.hid (BI.out.grew g3)
              have OW4 := Lib.hid own3
              obtain ⟨w4, hw4⟩ : ∃ y, y = w3 := ⟨_, rfl⟩
              rw [← hw4] at S3 BI OW4 ⊢
              have S4 := S3
              clear hw4 own3 hg3 g3 S3 S0
              refine wpAnyH_step (i := 7) (by kernel_rfl) (fuel' := 1) (by kernel_rfl) (by simp only [pickOps, List.getElem?_toArray, List.getElem?_cons_zero, List.getElem?_cons_succ]; rfl) (by rfl) ?_
              intro K hK
              refine wp_append_sl _ (.tmp 47) (.tmp 49) 38 rfl wx.heap.size 50 i0 _ 6 64 Try.underlying38 hi hz0 hz1 hz2 rfl (by decide) (.slice A3 k c3) k _ rfl OW4.out (some ⟨b4, 0, none⟩) 1 1 _ rfl BI.out.2 (flat_one ne_ok _) (by unfold maxLen; omega) (by omega) S4.le ?_
              intro v5 w5 own5 hg5 hat5
              obtain ⟨A5, c5, rfl⟩ := own_form own5
              have S5 : Grew wx w5 := S4.grown hg5 (fun j hj => (OW4.out.lt j hj).1)
              refine hK _ _ S5 ?_
              clear hK K
              simp only [Act.put, List.setIfInBounds_toArray, List.set_cons_zero, List.set_cons_succ]
              have OW5 := Lib.hid own5
              clear own5 hg5 hat5 OW4 BI S4
              refine wpAnyH_takes (fun _ _ _ _ _ h => h) S5 [8] (fuel' := 0) (by kernel_rfl) (by kernel_rfl) (by simp only [pickOps, List.getElem?_toArray, List.getElem?_cons_zero, List.getElem?_cons_succ]; rfl) ?_
              repeat (first
                | (refine TakeP.pure (v := ?_) (by rfl) ?_ ?_; rotate_left; (intro w' g'; go_simp; first | done | with_reducible rfl); (simp only [Act.put, List.setIfInBounds_toArray, List.set_cons_zero, List.set_cons_succ])))
              refine TakeP.nil ?_
              refine wpAnyH_done (by kernel_rfl) ?_ _
              clear hC
              have ST5 := Lib.hid (ST.out.grew S5)
              go_wp2_with (at_builtin; refine wpList_append_sl _ rfl (.tmp 51) (.tmp 54) 38 rfl w.heap.size 50 i0 _ 6 64 Try.underlying38 hi hz0 hz1 hz2 rfl (by decide) (.slice A5 (k + 1) c5) (k + 1) _ rfl (own_base OW5.out hw0) (tailA (some ⟨b, o, none⟩) c k 6) (n - k) (c - k) _ rfl ST5.out (flat_one ne_ok _) (by unfold maxLen; omega) (by omega) (Nat.le_trans hw0 S5.le) ?_; intro v7 w7 own7 hg7 hat7; obtain ⟨A7, c7, rfl⟩ := own_form own7)
              have gE7 : Grew w w7 := ((gg.trans gE).trans (gx.trans S5)).grown hg7 (fun j hj => Nat.le_trans hw0 (OW5.out.lt j hj).1)
              have HIX := insE_at HPOS.out
              go_ret
              refine ⟨A7, _, c7, rfl, ?_, ?_, gE7⟩
              · rw [HIX, List.length_append, List.length_cons, List.length_take, List.length_drop, HL.out]; omega
              · rw [HIX, List.flatMap_append, List.flatMap_cons]
                have h7 := own7
                simp only [List.flatMap_cons, List.flatMap_nil, List.append_nil, List.append_assoc] at h7
                exact h7
        · have q2 : (y.b == x.b) = false := by simpa using h2
          have HB : ltEB y x = false := by rw [Bool.eq_false_iff]; intro h; rcases ltEB_iff.1 h with h | h <;> omega
          clear h1 h2
          have HPOS : Hid (posE x l = k) := posE_eq (by rw [HL.out]; exact hk) HLT.out (fun z hz => by rw [HY.out] at hz; injection hz with hz; subst hz; exact HB)
          go_wp2_with fail
          refine wp_region_seq (by kernel_rfl) Grew.refl (fun _ _ _ => Grew.trans) (fun _ _ _ _ _ h => h) (by kernel_rfl) ?_
          repeat (first
            | (refine TakeAll.pure (v := ?_) (by rfl) ?_ ?_; rotate_left; (intro w' g'; obtain ⟨⟨x0, x1, x2, x3, x4, x5⟩, y0, y1, y2, y3, y4, y5⟩ := hC w' g'; go_simp; first | done | with_reducible rfl); (simp only [Act.put, List.setIfInBounds_toArray, List.set_cons_zero, List.set_cons_succ]))
            | (refine TakeAll.skip (by rfl) ?_; (simp only [Act.put, List.setIfInBounds_toArray, List.set_cons_zero, List.set_cons_succ])))
          refine TakeAll.nil ?_
          intro wd gd
          have gE := hg.drew.trans gd
          clear hC HRXd
          skip
          go_upto_region 5 with (fail)
          obtain ⟨wx, hwx⟩ : ∃ y, y = wd.drew := ⟨_, rfl⟩
          have gx : Grew wd wx := by rw [hwx]; exact (Grew.refl wd).drew
          have HRd := Lib.hid (range_grew HRX.out (gE.trans gx))
          have HHd := Lib.hid (HH.out.grew ((gg.trans gE).trans gx))
          have SH := Lib.hid (HHd.out.head ne_ok (q := k) (k := c) hk (by omega) (Nat.le_refl _)).2
          have ST := Lib.hid (HHd.out.tail ne_ok hk).2
          have hw0 : w.heap.size ≤ wx.heap.size := ((gg.trans gE).trans gx).le
          have r1 : ∀ x, (Instr.slice 38 (.slice (some ⟨b, o, none⟩) n c) none (some (.int .i64 (k : Int))) none).run Try.prog x = .ok (.slice (some ⟨b, o, none⟩) k c) x := fun x => run_slice_head x 38 6 elem38 (size50 x) (some ⟨b, o, none⟩) n c k _ (by omega)
          have r2 : ∀ x, (Instr.slice 38 (.slice (some ⟨b, o, none⟩) n c) (some (.int .i64 (k : Int))) none none).run Try.prog x = .ok (.slice (tailA (some ⟨b, o, none⟩) c k 6) (n - k) (c - k)) x := fun x => run_slice_tail x 38 6 elem38 (size50 x) (some ⟨b, o, none⟩) n c k _ (by omega)
          have hC : ∀ w', Grew wx w' → w'.cell? ⟨b1, 0, none⟩ = some (.int .i64 x.id) ∧ w'.cell? ⟨b1, 1, none⟩ = some (.string x.de) ∧ w'.cell? ⟨b1, 2, none⟩ = some (.string x.cr) ∧ w'.cell? ⟨b1, 3, none⟩ = some (.int .i64 x.c) ∧ w'.cell? ⟨b1, 4, none⟩ = some (.int .i64 x.d) ∧ w'.cell? ⟨b1, 5, none⟩ = some (.int .i64 x.b) := fun w' g' => n_cells0 (range_grew HRd.out g')
          refine wp_region_H (by kernel_rfl) (fun w' => Grew wx w') ?_
          rw [← hwx]
          clear hwx
          refine wpAnyH_takes (fun _ _ _ _ _ h => h) (Grew.refl _) [0, 1, 2, 3, 5] (fuel' := 4) (by kernel_rfl) (by kernel_rfl) (by simp only [pickOps, List.getElem?_toArray, List.getElem?_cons_zero, List.getElem?_cons_succ]; rfl) ?_
          repeat (first
            | (refine TakeP.pure (v := ?_) (by rfl) ?_ ?_; rotate_left; (intro w' g'; obtain ⟨e0, e1, e2, e3, e4, e5⟩ := hC w' g'; go_simp; first | done | with_reducible rfl); (simp only [Act.put, List.setIfInBounds_toArray, List.set_cons_zero, List.set_cons_succ])))
          refine TakeP.nil ?_
          refine wpAnyH_two (i := 4) (j := 6) (by kernel_rfl) (fuel' := 3) (by kernel_rfl) (by simp only [pickOps, List.getElem?_toArray, List.getElem?_cons_zero, List.getElem?_cons_succ]; rfl) rfl (by simp only [pickOps, List.getElem?_toArray, List.getElem?_cons_zero, List.getElem?_cons_succ]; rfl) rfl ?_ ?_
          · intro K hK
            refine wp_append_sl _ (.tmp 43) (.tmp 46) 38 rfl wx.heap.size 50 i0 _ 6 64 Try.underlying38 hi hz0 hz1 hz2 rfl (by decide) (.slice none 0 0) 0 _ rfl (World.ownsRow_nil _ _ _ _) (some ⟨b, o, none⟩) k c _ rfl (SH.out.grew (Grew.refl _)) (flat_one ne_ok _) (by unfold maxLen; omega) (by omega) ((Grew.refl _)).le ?_
            intro v3 w3 own3 hg3 hat3
            obtain ⟨A3, c3, rfl⟩ := own_form own3
            rw [Nat.zero_add, List.nil_append] at own3
            have S3 : Grew wx w3 := ((Grew.refl _)).grown hg3 (fun j hj => by cases hj)
            rw [Nat.zero_add]
            refine hK _ _ S3 ?_
            clear hK K
            simp only [Act.put, List.setIfInBounds_toArray, List.set_cons_zero, List.set_cons_succ]
            clear hat3
            have OW3 := Lib.hid own3
            clear own3 hg3
            refine wpAnyH_step (i := 6) (by kernel_rfl) (fuel' := 2) (by kernel_rfl) (by simp only [pickOps, List.getElem?_toArray, List.getElem?_cons_zero, List.getElem?_cons_succ]; rfl) (by rfl) ?_
            intro K hK
            go_simp
            have S4 := S3.alloc (.cells #[.int .i64 x.id, .string x.de, .string x.cr, .int .i64 x.c, .int .i64 x.d, .int .i64 x.b] 50)
            refine hK _ _ S4 ?_
            clear hK K
            have BI := Lib.hid (Recs.built (w := w3) ne_ok (t := 50) (l := [x]) (n := 1) #[.int .i64 x.id, .string x.de, .string x.cr, .int .i64 x.c, .int .i64 x.d, .int .i64 x.b] rfl rfl (by decide))
            have OW4 := Lib.hid (OW3.out.alloc (.cells #[.int .i64 x.id, .string x.de, .string x.cr, .int .i64 x.c, .int .i64 x.d, .int .i64 x.b] 50))
            obtain ⟨w4, hw4⟩ : ∃ y, y = w3.alloc (.cells #[.int .i64 x.id, .string x.de, .string x.cr, .int .i64 x.c, .int .i64 x.d, .int .i64 x.b] 50) := ⟨_, rfl⟩
            rw [← hw4] at S4 BI OW4 ⊢
            obtain ⟨b4, hb4⟩ : ∃ z, z = w3.heap.size := ⟨_, rfl⟩
            rw [← hb4] at BI ⊢
            clear hw4 hb4 OW3 S3
            refine wpAnyH_step (i := 7) (by kernel_rfl) (fuel' := 1) (by kernel_rfl) (by simp only [pickOps, List.getElem?_toArray, List.getElem?_cons_zero, List.getElem?_cons_succ]; rfl) (by rfl) ?_
            intro K hK
            refine wp_append_sl _ (.tmp 47) (.tmp 49) 38 rfl wx.heap.size 50 i0 _ 6 64 Try.underlying38 hi hz0 hz1 hz2 rfl (by decide) (.slice A3 k c3) k _ rfl OW4.out (some ⟨b4, 0, none⟩) 1 1 _ rfl BI.out.2 (flat_one ne_ok _) (by unfold maxLen; omega) (by omega) S4.le ?_
            intro v5 w5 own5 hg5 hat5
            obtain ⟨A5, c5, rfl⟩ := own_form own5
            have S5 : Grew wx w5 := S4.grown hg5 (fun j hj => (OW4.out.lt j hj).1)
            refine hK _ _ S5 ?_
            clear hK K
            simp only [Act.put, List.setIfInBounds_toArray, List.set_cons_zero, List.set_cons_succ]
            have OW5 := Lib.hid own5
            clear own5 hg5 hat5 OW4 BI S4
            refine wpAnyH_takes (fun _ _ _ _ _ h => h) S5 [8] (fuel' := 0) (by kernel_rfl) (by kernel_rfl) (by simp only [pickOps, List.getElem?_toArray, List.getElem?_cons_zero, List.getElem?_cons_succ]; rfl) ?_
            repeat (first
              | (refine TakeP.pure (v := ?_) (by rfl) ?_ ?_; rotate_left; (intro w' g'; go_simp; first | done | with_reducible rfl); (simp only [Act.put, List.setIfInBounds_toArray, List.set_cons_zero, List.set_cons_succ])))
            refine TakeP.nil ?_
            refine wpAnyH_done (by kernel_rfl) ?_ _
            clear hC
            have ST5 := Lib.hid (ST.out.grew S5)
            go_wp2_with (at_builtin; refine wpList_append_sl _ rfl (.tmp 51) (.tmp 54) 38 rfl w.heap.size 50 i0 _ 6 64 Try.underlying38 hi hz0 hz1 hz2 rfl (by decide) (.slice A5 (k + 1) c5) (k + 1) _ rfl (own_base OW5.out hw0) (tailA (some ⟨b, o, none⟩) c k 6) (n - k) (c - k) _ rfl ST5.out (flat_one ne_ok _) (by unfold maxLen; omega) (by omega) (Nat.le_trans hw0 S5.le) ?_; intro v7 w7 own7 hg7 hat7; obtain ⟨A7, c7, rfl⟩ := own_form own7)
            have gE7 : Grew w w7 := ((gg.trans gE).trans (gx.trans S5)).grown hg7 (fun j hj => Nat.le_trans hw0 (OW5.out.lt j hj).1)
            have HIX := insE_at HPOS.out
            go_ret
            refine ⟨A7, _, c7, rfl, ?_, ?_, gE7⟩
            · rw [HIX, List.length_append, List.length_cons, List.length_take, List.length_drop, HL.out]; omega
            · rw [HIX, List.flatMap_append, List.flatMap_cons]
              have h7 := own7
              simp only [List.flatMap_cons, List.flatMap_nil, List.append_nil, List.append_assoc] at h7
              exact h7
          · intro K hK
            go_simp
            have S0 := (Grew.refl wx).alloc (.cells #[.int .i64 x.id, .string x.de, .string x.cr, .int .i64 x.c, .int .i64 x.d, .int .i64 x.b] 50)
            refine hK _ _ S0 ?_
            clear hK K
            have BI := Lib.hid (Recs.built (w := wx) ne_ok (t := 50) (l := [x]) (n := 1) #[.int .i64 x.id, .string x.de, .string x.cr, .int .i64 x.c, .int .i64 x.d, .int .i64 x.b] rfl rfl (by decide))
            obtain ⟨w2, hw2⟩ : ∃ y, y = wx.alloc (.cells #[.int .i64 x.id, .string x.de, .string x.cr, .int .i64 x.c, .int .i64 x.d, .int .i64 x.b] 50) := ⟨_, rfl⟩
            rw [← hw2] at S0 BI ⊢
            obtain ⟨b4, hb4⟩ : ∃ z, z = wx.heap.size := ⟨_, rfl⟩
            rw [← hb4] at BI ⊢
            clear hw2 hb4
            refine wpAnyH_step (i := 4) (by kernel_rfl) (fuel' := 2) (by kernel_rfl) (by simp only [pickOps, List.getElem?_toArray, List.getElem?_cons_zero, List.getElem?_cons_succ]; rfl) (by rfl) ?_
            intro K hK
            refine wp_append_sl _ (.tmp 43) (.tmp 46) 38 rfl wx.heap.size 50 i0 _ 6 64 Try.underlying38 hi hz0 hz1 hz2 rfl (by decide) (.slice none 0 0) 0 _ rfl (World.ownsRow_nil _ _ _ _) (some ⟨b, o, none⟩) k c _ rfl (SH.out.grew S0) (flat_one ne_ok _) (by unfold maxLen; omega) (by omega) (S0).le ?_
            intro v3 w3 own3 hg3 hat3
            obtain ⟨A3, c3, rfl⟩ := own_form own3
            rw [Nat.zero_add, List.nil_append] at own3
            have S3 : Grew wx w3 := (S0).grown hg3 (fun j hj => by cases hj)
            rw [Nat.zero_add]
            refine hK _ _ S3 ?_
            clear hK K
            simp only [Act.put, List.setIfInBounds_toArray, List.set_cons_zero, List.set_cons_succ]
            clear hat3
            have g3 : Grew w2 w3 := (Grew.refl w2).grown hg3 (fun j hj => by cases hj)
            replace BI := Lib.hid (BI.out.grew g3)
            have OW4 := Lib.hid own3
            obtain ⟨w4, hw4⟩ : ∃ y, y = w3 := ⟨_, rfl⟩
            rw [← hw4] at S3 BI OW4 ⊢
            have S4 := S3
            clear hw4 own3 hg3 g3 S3 S0
            refine wpAnyH_step (i := 7) (by kernel_rfl) (fuel' := 1) (by kernel_rfl) (by simp only [pickOps, List.getElem?_toArray, List.getElem?_cons_zero, List.getElem?_cons_succ]; rfl) (by rfl) ?_
            intro K hK
            refine wp_append_sl _ (.tmp 47) (.tmp 49) 38 rfl wx.heap.size 50 i0 _ 6 64 Try.underlying38 hi hz0 hz1 hz2 rfl (by decide) (.slice A3 k c3) k _ rfl OW4.out (some ⟨b4, 0, none⟩) 1 1 _ rfl BI.out.2 (flat_one ne_ok _) (by unfold maxLen; omega) (by omega) S4.le ?_
            intro v5 w5 own5 hg5 hat5
            obtain ⟨A5, c5, rfl⟩ := own_form own5
            have S5 : Grew wx w5 := S4.grown hg5 (fun j hj => (OW4.out.lt j hj).1)
            refine hK _ _ S5 ?_
            clear hK K
            simp only [Act.put, List.setIfInBounds_toArray, List.set_cons_zero, List.set_cons_succ]
            have OW5 := Lib.hid own5
            clear own5 hg5 hat5 OW4 BI S4
            refine wpAnyH_takes (fun _ _ _ _ _ h => h) S5 [8] (fuel' := 0) (by kernel_rfl) (by kernel_rfl) (by simp only [pickOps, List.getElem?_toArray, List.getElem?_cons_zero, List.getElem?_cons_succ]; rfl) ?_
            repeat (first
              | (refine TakeP.pure (v := ?_) (by rfl) ?_ ?_; rotate_left; (intro w' g'; go_simp; first | done | with_reducible rfl); (simp only [Act.put, List.setIfInBounds_toArray, List.set_cons_zero, List.set_cons_succ])))
            refine TakeP.nil ?_
            refine wpAnyH_done (by kernel_rfl) ?_ _
            clear hC
            have ST5 := Lib.hid (ST.out.grew S5)
            go_wp2_with (at_builtin; refine wpList_append_sl _ rfl (.tmp 51) (.tmp 54) 38 rfl w.heap.size 50 i0 _ 6 64 Try.underlying38 hi hz0 hz1 hz2 rfl (by decide) (.slice A5 (k + 1) c5) (k + 1) _ rfl (own_base OW5.out hw0) (tailA (some ⟨b, o, none⟩) c k 6) (n - k) (c - k) _ rfl ST5.out (flat_one ne_ok _) (by unfold maxLen; omega) (by omega) (Nat.le_trans hw0 S5.le) ?_; intro v7 w7 own7 hg7 hat7; obtain ⟨A7, c7, rfl⟩ := own_form own7)
            have gE7 : Grew w w7 := ((gg.trans gE).trans (gx.trans S5)).grown hg7 (fun j hj => Nat.le_trans hw0 (OW5.out.lt j hj).1)
            have HIX := insE_at HPOS.out
            go_ret
            refine ⟨A7, _, c7, rfl, ?_, ?_, gE7⟩
            · rw [HIX, List.length_append, List.length_cons, List.length_take, List.length_drop, HL.out]; omega
            · rw [HIX, List.flatMap_append, List.flatMap_cons]
              have h7 := own7
              simp only [List.flatMap_cons, List.flatMap_nil, List.append_nil, List.append_assoc] at h7
              exact h7
    · have qk : decide ((k : Int) < (n : Int)) = false := decide_eq_false (by omega)
      have HPOS : Hid (posE x l = k) := posE_eq (by rw [HL.out]; exact hk) HLT.out (fun z hz => by rw [List.getElem?_eq_none (by rw [HL.out]; omega)] at hz; cases hz)
      have qk2 : decide (k < n) = false := decide_eq_false hlt
      clear hlt
      go_wp2_with fail
      refine wp_region_seq (by kernel_rfl) Grew.refl (fun _ _ _ => Grew.trans) (fun _ _ _ _ _ h => h) (by kernel_rfl) ?_
      repeat (first
        | (refine TakeAll.pure (v := ?_) (by rfl) ?_ ?_; rotate_left; (intro w' g'; go_simp; first | done | with_reducible rfl); (simp only [Act.put, List.setIfInBounds_toArray, List.set_cons_zero, List.set_cons_succ]))
        | (refine TakeAll.skip (by rfl) ?_; (simp only [Act.put, List.setIfInBounds_toArray, List.set_cons_zero, List.set_cons_succ])))
      refine TakeAll.nil ?_
      intro wd gd
      have gE := hg.drew.trans gd
      skip
      go_upto_region 5 with (fail)
      obtain ⟨wx, hwx⟩ : ∃ y, y = wd.drew := ⟨_, rfl⟩
      have gx : Grew wd wx := by rw [hwx]; exact (Grew.refl wd).drew
      have HRd := Lib.hid (range_grew HRX.out (gE.trans gx))
      have HHd := Lib.hid (HH.out.grew ((gg.trans gE).trans gx))
      have SH := Lib.hid (HHd.out.head ne_ok (q := k) (k := c) hk (by omega) (Nat.le_refl _)).2
      have ST := Lib.hid (HHd.out.tail ne_ok hk).2
      have hw0 : w.heap.size ≤ wx.heap.size := ((gg.trans gE).trans gx).le
      have r1 : ∀ x, (Instr.slice 38 (.slice A n c) none (some (.int .i64 (k : Int))) none).run Try.prog x = .ok (.slice A k c) x := fun x => run_slice_head x 38 6 elem38 (size50 x) A n c k _ (by omega)
      have r2 : ∀ x, (Instr.slice 38 (.slice A n c) (some (.int .i64 (k : Int))) none none).run Try.prog x = .ok (.slice (tailA A c k 6) (n - k) (c - k)) x := fun x => run_slice_tail x 38 6 elem38 (size50 x) A n c k _ (by omega)
      have hC : ∀ w', Grew wx w' → w'.cell? ⟨b1, 0, none⟩ = some (.int .i64 x.id) ∧ w'.cell? ⟨b1, 1, none⟩ = some (.string x.de) ∧ w'.cell? ⟨b1, 2, none⟩ = some (.string x.cr) ∧ w'.cell? ⟨b1, 3, none⟩ = some (.int .i64 x.c) ∧ w'.cell? ⟨b1, 4, none⟩ = some (.int .i64 x.d) ∧ w'.cell? ⟨b1, 5, none⟩ = some (.int .i64 x.b) := fun w' g' => n_cells0 (range_grew HRd.out g')
      refine wp_region_H (by kernel_rfl) (fun w' => Grew wx w') ?_
      rw [← hwx]
      clear hwx
      refine wpAnyH_takes (fun _ _ _ _ _ h => h) (Grew.refl _) [0, 1, 2, 3, 5] (fuel' := 4) (by kernel_rfl) (by kernel_rfl) (by simp only [pickOps, List.getElem?_toArray, List.getElem?_cons_zero, List.getElem?_cons_succ]; rfl) ?_
      repeat (first
        | (refine TakeP.pure (v := ?_) (by rfl) ?_ ?_; rotate_left; (intro w' g'; obtain ⟨e0, e1, e2, e3, e4, e5⟩ := hC w' g'; go_simp; first | done | with_reducible rfl); (simp only [Act.put, List.setIfInBounds_toArray, List.set_cons_zero, List.set_cons_succ])))
      refine TakeP.nil ?_
      refine wpAnyH_two (i := 4) (j := 6) (by kernel_rfl) (fuel' := 3) (by kernel_rfl) (by simp only [pickOps, List.getElem?_toArray, List.getElem?_cons_zero, List.getElem?_cons_succ]; rfl) rfl (by simp only [pickOps, List.getElem?_toArray, List.getElem?_cons_zero, List.getElem?_cons_succ]; rfl) rfl ?_ ?_
      · intro K hK
        refine wp_append_sl _ (.tmp 43) (.tmp 46) 38 rfl wx.heap.size 50 i0 _ 6 64 Try.underlying38 hi hz0 hz1 hz2 rfl (by decide) (.slice none 0 0) 0 _ rfl (World.ownsRow_nil _ _ _ _) A k c _ rfl (SH.out.grew (Grew.refl _)) (flat_one ne_ok _) (by unfold maxLen; omega) (by omega) ((Grew.refl _)).le ?_
        intro v3 w3 own3 hg3 hat3
        obtain ⟨A3, c3, rfl⟩ := own_form own3
        rw [Nat.zero_add, List.nil_append] at own3
        have S3 : Grew wx w3 := ((Grew.refl _)).grown hg3 (fun j hj => by cases hj)
        rw [Nat.zero_add]
        refine hK _ _ S3 ?_
        clear hK K
        simp only [Act.put, List.setIfInBounds_toArray, List.set_cons_zero, List.set_cons_succ]
        clear hat3
        have OW3 := Lib.hid own3
        clear own3 hg3
        refine wpAnyH_step (i := 6) (by kernel_rfl) (fuel' := 2) (by kernel_rfl) (by simp only [pickOps, List.getElem?_toArray, List.getElem?_cons_zero, List.getElem?_cons_succ]; rfl) (by rfl) ?_
        intro K hK
        go_simp
        have S4 := S3.alloc (.cells #[.int .i64 x.id, .string x.de, .string x.cr, .int .i64 x.c, .int .i64 x.d, .int .i64 x.b] 50)
        refine hK _ _ S4 ?_
        clear hK K
        have BI := Lib.hid (Recs.built (w := w3) ne_ok (t := 50) (l := [x]) (n := 1) #[.int .i64 x.id, .string x.de, .string x.cr, .int .i64 x.c, .int .i64 x.d, .int .i64 x.b] rfl rfl (by decide))
        have OW4 := Lib.hid (OW3.out.alloc (.cells #[.int .i64 x.id, .string x.de, .string x.cr, .int .i64 x.c, .int .i64 x.d, .int .i64 x.b] 50))
        obtain ⟨w4, hw4⟩ : ∃ y, y = w3.alloc (.cells #[.int .i64 x.id, .string x.de, .string x.cr, .int .i64 x.c, .int .i64 x.d, .int .i64 x.b] 50) := ⟨_, rfl⟩
        rw [← hw4] at S4 BI OW4 ⊢
        obtain ⟨b4, hb4⟩ : ∃ z, z = w3.heap.size := ⟨_, rfl⟩
        rw [← hb4] at BI ⊢
        clear hw4 hb4 OW3 S3
        refine wpAnyH_step (i := 7) (by kernel_rfl) (fuel' := 1) (by kernel_rfl) (by simp only [pickOps, List.getElem?_toArray, List.getElem?_cons_zero, List.getElem?_cons_succ]; rfl) (by rfl) ?_
        intro K hK
        refine wp_append_sl _ (.tmp 47) (.tmp 49) 38 rfl wx.heap.size 50 i0 _ 6 64 Try.underlying38 hi hz0 hz1 hz2 rfl (by decide) (.slice A3 k c3) k _ rfl OW4.out (some ⟨b4, 0, none⟩) 1 1 _ rfl BI.out.2 (flat_one ne_ok _) (by unfold maxLen; omega) (by omega) S4.le ?_
        intro v5 w5 own5 hg5 hat5
        obtain ⟨A5, c5, rfl⟩ := own_form own5
        have S5 : Grew wx w5 := S4.grown hg5 (fun j hj => (OW4.out.lt j hj).1)
        refine hK _ _ S5 ?_
        clear hK K
        simp only [Act.put, List.setIfInBounds_toArray, List.set_cons_zero, List.set_cons_succ]
        have OW5 := Lib.hid own5
        clear own5 hg5 hat5 OW4 BI S4
        refine wpAnyH_takes (fun _ _ _ _ _ h => h) S5 [8] (fuel' := 0) (by kernel_rfl) (by kernel_rfl) (by simp only [pickOps, List.getElem?_toArray, List.getElem?_cons_zero, List.getElem?_cons_succ]; rfl) ?_
        repeat (first
          | (refine TakeP.pure (v := ?_) (by rfl) ?_ ?_; rotate_left; (intro w' g'; go_simp; first | done | with_reducible rfl); (simp only [Act.put, List.setIfInBounds_toArray, List.set_cons_zero, List.set_cons_succ])))
        refine TakeP.nil ?_
        refine wpAnyH_done (by kernel_rfl) ?_ _
        clear hC
        have ST5 := Lib.hid (ST.out.grew S5)
        go_wp2_with (at_builtin; refine wpList_append_sl _ rfl (.tmp 51) (.tmp 54) 38 rfl w.heap.size 50 i0 _ 6 64 Try.underlying38 hi hz0 hz1 hz2 rfl (by decide) (.slice A5 (k + 1) c5) (k + 1) _ rfl (own_base OW5.out hw0) (tailA A c k 6) (n - k) (c - k) _ rfl ST5.out (flat_one ne_ok _) (by unfold maxLen; omega) (by omega) (Nat.le_trans hw0 S5.le) ?_; intro v7 w7 own7 hg7 hat7; obtain ⟨A7, c7, rfl⟩ := own_form own7)
        have gE7 : Grew w w7 := ((gg.trans gE).trans (gx.trans S5)).grown hg7 (fun j hj => Nat.le_trans hw0 (OW5.out.lt j hj).1)
        have HIX := insE_at HPOS.out
        go_ret
        refine ⟨A7, _, c7, rfl, ?_, ?_, gE7⟩
        · rw [HIX, List.length_append, List.length_cons, List.length_take, List.length_drop, HL.out]; omega
        · rw [HIX, List.flatMap_append, List.flatMap_cons]
          have h7 := own7
          simp only [List.flatMap_cons, List.flatMap_nil, List.append_nil, List.append_assoc] at h7
          exact h7
      · intro K hK
        go_simp
        have S0 := (Grew.refl wx).alloc (.cells #[.int .i64 x.id, .string x.de, .string x.cr, .int .i64 x.c, .int .i64 x.d, .int .i64 x.b] 50)
        refine hK _ _ S0 ?_
        clear hK K
        have BI := Lib.hid (Recs.built (w := wx) ne_ok (t := 50) (l := [x]) (n := 1) #[.int .i64 x.id, .string x.de, .string x.cr, .int .i64 x.c, .int .i64 x.d, .int .i64 x.b] rfl rfl (by decide))
        obtain ⟨w2, hw2⟩ : ∃ y, y = wx.alloc (.cells #[.int .i64 x.id, .string x.de, .string x.cr, .int .i64 x.c, .int .i64 x.d, .int .i64 x.b] 50) := ⟨_, rfl⟩
        rw [← hw2] at S0 BI ⊢
        obtain ⟨b4, hb4⟩ : ∃ z, z = wx.heap.size := ⟨_, rfl⟩
        rw [← hb4] at BI ⊢
        clear hw2 hb4
        refine wpAnyH_step (i := 4) (by kernel_rfl) (fuel' := 2) (by kernel_rfl) (by simp only [pickOps, List.getElem?_toArray, List.getElem?_cons_zero, List.getElem?_cons_succ]; rfl) (by rfl) ?_
        intro K hK
        refine wp_append_sl _ (.tmp 43) (.tmp 46) 38 rfl wx.heap.size 50 i0 _ 6 64 Try.underlying38 hi hz0 hz1 hz2 rfl (by decide) (.slice none 0 0) 0 _ rfl (World.ownsRow_nil _ _ _ _) A k c _ rfl (SH.out.grew S0) (flat_one ne_ok _) (by unfold maxLen; omega) (by omega) (S0).le ?_
        intro v3 w3 own3 hg3 hat3
        obtain ⟨A3, c3, rfl⟩ := own_form own3
        rw [Nat.zero_add, List.nil_append] at own3
        have S3 : Grew wx w3 := (S0).grown hg3 (fun j hj => by cases hj)
        rw [Nat.zero_add]
        refine hK _ _ S3 ?_
        clear hK K
        simp only [Act.put, List.setIfInBounds_toArray, List.set_cons_zero, List.set_cons_succ]
        clear hat3
        have g3 : Grew w2 w3 := (Grew.refl w2).grown hg3 (fun j hj => by cases hj)
        replace BI := Lib.hid (BI.out.grew g3)
        have OW4 := Lib.hid own3
        obtain ⟨w4, hw4⟩ : ∃ y, y = w3 := ⟨_, rfl⟩
        rw [← hw4] at S3 BI OW4 ⊢
        have S4 := S3
        clear hw4 own3 hg3 g3 S3 S0
        refine wpAnyH_step (i := 7) (by kernel_rfl) (fuel' := 1) (by kernel_rfl) (by simp only [pickOps, List.getElem?_toArray, List.getElem?_cons_zero, List.getElem?_cons_succ]; rfl) (by rfl) ?_
        intro K hK
        refine wp_append_sl _ (.tmp 47) (.tmp 49) 38 rfl wx.heap.size 50 i0 _ 6 64 Try.underlying38 hi hz0 hz1 hz2 rfl (by decide) (.slice A3 k c3) k _ rfl OW4.out (some ⟨b4, 0, none⟩) 1 1 _ rfl BI.out.2 (flat_one ne_ok _) (by unfold maxLen; omega) (by omega) S4.le ?_
        intro v5 w5 own5 hg5 hat5
        obtain ⟨A5, c5, rfl⟩ := own_form own5
        have S5 : Grew wx w5 := S4.grown hg5 (fun j hj => (OW4.out.lt j hj).1)
        refine hK _ _ S5 ?_
        clear hK K
        simp only [Act.put, List.setIfInBounds_toArray, List.set_cons_zero, List.set_cons_succ]
        have OW5 := Lib.hid own5
        clear own5 hg5 hat5 OW4 BI S4
        refine wpAnyH_takes (fun _ _ _ _ _ h => h) S5 [8] (fuel' := 0) (by kernel_rfl) (by kernel_rfl) (by simp only [pickOps, List.getElem?_toArray, List.getElem?_cons_zero, List.getElem?_cons_succ]; rfl) ?_
        repeat (first
          | (refine TakeP.pure (v := ?_) (by rfl) ?_ ?_; rotate_left; (intro w' g'; go_simp; first | done | with_reducible rfl); (simp only [Act.put, List.setIfInBounds_toArray, List.set_cons_zero, List.set_cons_succ])))
        refine TakeP.nil ?_
        refine wpAnyH_done (by kernel_rfl) ?_ _
        clear hC
        have ST5 := Lib.hid (ST.out.grew S5)
        go_wp2_with (at_builtin; refine wpList_append_sl _ rfl (.tmp 51) (.tmp 54) 38 rfl w.heap.size 50 i0 _ 6 64 Try.underlying38 hi hz0 hz1 hz2 rfl (by decide) (.slice A5 (k + 1) c5) (k + 1) _ rfl (own_base OW5.out hw0) (tailA A c k 6) (n - k) (c - k) _ rfl ST5.out (flat_one ne_ok _) (by unfold maxLen; omega) (by omega) (Nat.le_trans hw0 S5.le) ?_; intro v7 w7 own7 hg7 hat7; obtain ⟨A7, c7, rfl⟩ := own_form own7)
        have gE7 : Grew w w7 := ((gg.trans gE).trans (gx.trans S5)).grown hg7 (fun j hj => Nat.le_trans hw0 (OW5.out.lt j hj).1)
        have HIX := insE_at HPOS.out
        go_ret
        refine ⟨A7, _, c7, rfl, ?_, ?_, gE7⟩
        · rw [HIX, List.length_append, List.length_cons, List.length_take, List.length_drop, HL.out]; omega
        · rw [HIX, List.flatMap_append, List.flatMap_cons]
          have h7 := own7
          simp only [List.flatMap_cons, List.flatMap_nil, List.append_nil, List.append_assoc] at h7
          exact h7
end Go.Proofs.Ytaocjobbfcfleaa
