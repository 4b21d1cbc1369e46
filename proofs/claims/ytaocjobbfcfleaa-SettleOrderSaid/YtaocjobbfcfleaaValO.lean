/-
  slices.Equal at standings; slices.Clone; settle.valid.
-/
import Derived.Test.YtaocjobbfcfleaaEqS
import Derived.Test.YtaocjobbfcfleaaPayO
import Derived.Test.YtaocjobbfcfleaaStands
namespace Go.Proofs.Ytaocjobbfcfleaa
open Go.RowKit Go.Proofs WageMem WageOrd WageRec WageMap WageReg WageSet

theorem takes_eq {α : Type} {xs ys : List α} {k : Nat} {x y : α} (hx : xs[k]? = some x) (hy : ys[k]? = some y) (h : xs.take k = ys.take k) (hxy : x = y) : xs.take (k + 1) = ys.take (k + 1) := by
  rw [List.take_add_one, List.take_add_one, hx, hy, h, hxy]
set_option maxRecDepth 100000 in
set_option maxHeartbeats 4000000 in
theorem equalS_any (A B : Option Addr) (n m c e : Nat) (xs ys : List Sta) (w : World) (ha : Recs se 7 w A n c xs) (hb : Recs se 7 w B m e ys) :
    Calls Try.prog 51 #[.slice A n c, .slice B m e] w fun r w' => r = .returned (.bool (decide (xs = ys))) ∧ Grew w w' := by
  have HA := Lib.hid ha
  have HB := Lib.hid hb
  have hn := ha.le
  have hm := hb.le
  have LA := Lib.hid ha.1
  have LB := Lib.hid hb.1
  clear ha hb
  by_cases hnm : n = m
  · subst hnm
    have q : ((n : Int) != (n : Int)) = false := by simp
    go_enter Try.func51, Try.ntmps51
    go_wp2_with fail
    go_loopw [13] (fun i wr => ∃ k : Nat, k ≤ n ∧ i = .int .i64 k ∧ Hid (xs.take k = ys.take k) ∧ Grew w wr) (fun i _ => n - (intOf i).toNat)
    case atStart => exact ⟨0, Nat.zero_le _, rfl, rfl, Grew.refl _⟩
    case round =>
      obtain ⟨k, hk, rfl, HE, hg⟩ := hrel
      by_cases hlt : k < n
      · obtain ⟨b, o, x, rfl, hx, hrx⟩ := (HA.out.grew hg.drew).at_ se_ok hlt
        obtain ⟨b', o', y, rfl, hy, hry⟩ := (HB.out.grew hg.drew).at_ se_ok hlt
        have HX := Lib.hid hx
        have HY := Lib.hid hy
        have i0 : (0 : Int) ≤ (k : Int) := by omega
        have i1 : (k : Int) < (n : Int) := by omega
        have hC : ∀ w', Grew wr.drew w' → (w'.cell? ⟨b, o + k * 7, none⟩ = some (.int .i64 x.p.id) ∧ w'.cell? ⟨b, o + k * 7 + 1, none⟩ = some (.string x.p.acc) ∧ w'.cell? ⟨b, o + k * 7 + 2, none⟩ = some (.int .i64 x.p.c) ∧ w'.cell? ⟨b, o + k * 7 + 3, none⟩ = some (.int .i64 x.p.d) ∧ w'.cell? ⟨b, o + k * 7 + 4, none⟩ = some (.int .i64 x.st) ∧ w'.cell? ⟨b, o + k * 7 + 5, none⟩ = some (.int .i64 x.pd) ∧ w'.cell? ⟨b, o + k * 7 + 6, none⟩ = some (.int .i64 x.bk)) ∧ w'.cell? ⟨b', o' + k * 7, none⟩ = some (.int .i64 y.p.id) ∧ w'.cell? ⟨b', o' + k * 7 + 1, none⟩ = some (.string y.p.acc) ∧ w'.cell? ⟨b', o' + k * 7 + 2, none⟩ = some (.int .i64 y.p.c) ∧ w'.cell? ⟨b', o' + k * 7 + 3, none⟩ = some (.int .i64 y.p.d) ∧ w'.cell? ⟨b', o' + k * 7 + 4, none⟩ = some (.int .i64 y.st) ∧ w'.cell? ⟨b', o' + k * 7 + 5, none⟩ = some (.int .i64 y.pd) ∧ w'.cell? ⟨b', o' + k * 7 + 6, none⟩ = some (.int .i64 y.bk) := fun w' g' => ⟨s_cells (range_grew hrx g'), s_cells (range_grew hry g')⟩
        clear hx hy
        cases hxy : eqSta x y with
        | true =>
          have HT := Lib.hid (takes_eq HX.out HY.out HE.out (of_decide_eq_true hxy))
          go_wp2_with fail
          refine wp_region_seq (by kernel_rfl) Grew.refl (fun _ _ _ => Grew.trans) (fun _ _ _ _ _ h => h) (by kernel_rfl) ?_
          repeat (first
            | (refine TakeAll.pure (v := ?_) (by rfl) ?_ ?_; rotate_left; (intro w' g'; obtain ⟨⟨c0, c1, c2, c3, c4, c5, c6⟩, d0, d1, d2, d3, d4, d5, d6⟩ := hC w' g'; go_simp; first | done | with_reducible rfl); (simp only [Act.put, List.setIfInBounds_toArray, List.set_cons_zero, List.set_cons_succ]))
            | (refine TakeAll.skip (by rfl) ?_; (simp only [Act.put, List.setIfInBounds_toArray, List.set_cons_zero, List.set_cons_succ])))
          refine TakeAll.pure (v := .bool false) (by rfl) (fun w' _ => exec_neq43 (a := x) (b := y) (by rw [hxy]; rfl) rfl rfl rfl w') ?_
          simp only [Act.put, List.setIfInBounds_toArray, List.set_cons_zero, List.set_cons_succ]
          refine TakeAll.nil ?_
          intro w5 g5
          have gE := (hg.drew).trans g5
          clear hC
          go_wp2_with fail
          go_roundw
          case rel => exact ⟨k + 1, by omega, by go_num, HT, gE⟩
          case measure => simp [intOf]; omega
        | false =>
          have HN : Hid (¬ xs = ys) := by
            intro h
            have h1 := HX.out
            rw [h, HY.out] at h1
            injection h1 with h1
            exact (of_decide_eq_false hxy) h1.symm
          go_wp2_with fail
          refine wp_region_seq (by kernel_rfl) Grew.refl (fun _ _ _ => Grew.trans) (fun _ _ _ _ _ h => h) (by kernel_rfl) ?_
          repeat (first
            | (refine TakeAll.pure (v := ?_) (by rfl) ?_ ?_; rotate_left; (intro w' g'; obtain ⟨⟨c0, c1, c2, c3, c4, c5, c6⟩, d0, d1, d2, d3, d4, d5, d6⟩ := hC w' g'; go_simp; first | done | with_reducible rfl); (simp only [Act.put, List.setIfInBounds_toArray, List.set_cons_zero, List.set_cons_succ]))
            | (refine TakeAll.skip (by rfl) ?_; (simp only [Act.put, List.setIfInBounds_toArray, List.set_cons_zero, List.set_cons_succ])))
          refine TakeAll.pure (v := .bool true) (by rfl) (fun w' _ => exec_neq43 (a := x) (b := y) (by rw [hxy]; rfl) rfl rfl rfl w') ?_
          simp only [Act.put, List.setIfInBounds_toArray, List.set_cons_zero, List.set_cons_succ]
          refine TakeAll.nil ?_
          intro w5 g5
          have gE := (hg.drew).trans g5
          clear hC
          go_wp2_with fail
          go_ret
          exact ⟨ret_bool (decide_eq_false HN.out).symm, gE⟩
      · have HN : Hid (xs = ys) := by
          have h1 := HE.out
          rw [List.take_of_length_le (by rw [LA.out]; omega), List.take_of_length_le (by rw [LB.out]; omega)] at h1
          exact h1
        go_wp2_with fail
        go_ret
        exact ⟨ret_bool (decide_eq_true HN.out).symm, hg⟩
  · have q : ((n : Int) != (m : Int)) = true := by rw [bne_iff_ne]; omega
    have q' : (n != m) = true := by rw [bne_iff_ne]; exact hnm
    have HN : Hid (¬ xs = ys) := by intro h; apply hnm; rw [← LA.out, ← LB.out, h]
    clear hnm
    go_enter Try.func51, Try.ntmps51
    go_wp2_with fail
    go_ret
    exact ⟨ret_bool (decide_eq_false HN.out).symm, Grew.refl _⟩
theorem equalS_val {A B : Option Addr} {n m c e : Nat} {xs ys : List Sta} {w : World} {t : Bool} (ha : Recs se 7 w A n c xs) (hb : Recs se 7 w B m e ys) (ht : decide (xs = ys) = t) :
    Calls Try.prog 51 #[.slice A n c, .slice B m e] w fun r w' => r = .returned (.bool t) ∧ Grew w w' := by subst ht; exact equalS_any A B n m c e xs ys w ha hb

set_option maxRecDepth 100000 in
set_option maxHeartbeats 4000000 in
theorem cloneS_any (A : Option Addr) (n c : Nat) (l : List Sta) (w : World) (h : Recs se 7 w A n c l) (hn : n ≤ 5000) : Calls Try.prog 31 #[.slice A n c] w (RetE se 7 43 l w) := by
  obtain ⟨i0, hi, hz0, hz1, hz2⟩ := info_parts info43
  have HH := Lib.hid h
  have HL := Lib.hid h.1
  cases A with
  | none =>
    obtain ⟨rfl, rfl⟩ := h.2.2.2.2.2 rfl
    have hl : l = [] := List.eq_nil_of_length_eq_zero HL.out
    subst hl
    clear h
    have hr : ∀ x, (binOp .eql 22 (.slice none 0 0) (.slice none 0 0)).run Try.prog x = .ok (.bool true) x := fun x => by kernel_rfl
    go_enter Try.func31, Try.ntmps31
    go_wp2_with fail
    go_ret
    exact ⟨none, 0, 0, rfl, rfl, World.ownsRow_nil _ _ _ _, Grew.refl _⟩
  | some a =>
    clear h
    have hown : (w.alloc (.cells #[] 43)).ownsRow w.heap.size 43 7 (.slice (some ⟨w.heap.size, 0, none⟩) 0 0) 0 [] := World.ownsRow_made w #[] 0 (Nat.le_refl _) (Nat.zero_le _) rfl
    have HOW := Lib.hid hown
    clear hown
    have hr : ∀ x, (binOp .eql 22 (.slice (some a) n c) (.slice none 0 0)).run Try.prog x = .ok (.bool false) x := fun x => by kernel_rfl
    go_enter Try.func31, Try.ntmps31
    go_wp2_with (at_builtin; refine wpList_append_sl _ rfl (.tmp 5) (.tmp 6) 22 rfl w.heap.size 43 i0 _ 7 64 Try.underlying22 hi hz0 hz1 hz2 rfl (by decide) (.slice (some ⟨w.heap.size, 0, none⟩) 0 0) 0 [] rfl HOW.out (some a) n c (l.flatMap se) rfl (HH.out.2.grew ((Grew.refl w).alloc _)) (flat_one se_ok _) (by unfold maxLen; omega) (by omega) (by simp) ?_; intro v3 w3 own3 hg3 hat3; rw [Nat.zero_add, List.nil_append] at own3; obtain ⟨A3, c3, rfl⟩ := own_form own3)
    have gr3 : Grew w w3 := ((Grew.refl w).alloc _).grown hg3 (by simp [Value.ownBlock])
    have OW := Lib.hid own3
    clear own3 hg3 hat3 HOW
    go_ret
    exact ⟨A3, n, c3, by simp, HL.out, OW.out, gr3⟩

set_option maxRecDepth 100000 in
set_option maxHeartbeats 4000000 in
theorem cloneA_any (A : Option Addr) (n c : Nat) (l : List Ans) (w : World) (h : Recs ae 5 w A n c l) (hn : n ≤ 5000) : Calls Try.prog 32 #[.slice A n c] w (RetE ae 5 29 l w) := by
  obtain ⟨i0, hi, hz0, hz1, hz2⟩ := info_parts info29
  have HH := Lib.hid h
  have HL := Lib.hid h.1
  cases A with
  | none =>
    obtain ⟨rfl, rfl⟩ := h.2.2.2.2.2 rfl
    have hl : l = [] := List.eq_nil_of_length_eq_zero HL.out
    subst hl
    clear h
    have hr : ∀ x, (binOp .eql 23 (.slice none 0 0) (.slice none 0 0)).run Try.prog x = .ok (.bool true) x := fun x => by kernel_rfl
    go_enter Try.func32, Try.ntmps32
    go_wp2_with fail
    go_ret
    exact ⟨none, 0, 0, rfl, rfl, World.ownsRow_nil _ _ _ _, Grew.refl _⟩
  | some a =>
    clear h
    have hown : (w.alloc (.cells #[] 29)).ownsRow w.heap.size 29 5 (.slice (some ⟨w.heap.size, 0, none⟩) 0 0) 0 [] := World.ownsRow_made w #[] 0 (Nat.le_refl _) (Nat.zero_le _) rfl
    have HOW := Lib.hid hown
    clear hown
    have hr : ∀ x, (binOp .eql 23 (.slice (some a) n c) (.slice none 0 0)).run Try.prog x = .ok (.bool false) x := fun x => by kernel_rfl
    go_enter Try.func32, Try.ntmps32
    go_wp2_with (at_builtin; refine wpList_append_sl _ rfl (.tmp 5) (.tmp 6) 23 rfl w.heap.size 29 i0 _ 5 40 Try.underlying23 hi hz0 hz1 hz2 rfl (by decide) (.slice (some ⟨w.heap.size, 0, none⟩) 0 0) 0 [] rfl HOW.out (some a) n c (l.flatMap ae) rfl (HH.out.2.grew ((Grew.refl w).alloc _)) (flat_one ae_ok _) (by unfold maxLen; omega) (by omega) (by simp) ?_; intro v3 w3 own3 hg3 hat3; rw [Nat.zero_add, List.nil_append] at own3; obtain ⟨A3, c3, rfl⟩ := own_form own3)
    have gr3 : Grew w w3 := ((Grew.refl w).alloc _).grown hg3 (by simp [Value.ownBlock])
    have OW := Lib.hid own3
    clear own3 hg3 hat3 HOW
    go_ret
    exact ⟨A3, n, c3, by simp, HL.out, OW.out, gr3⟩

/-- A desk in memory. -/
def DeskIs (w : World) (A : Option Addr) (n c : Nat) (B : Option Addr) (m e : Nat) (d : Desk) : Prop := Stas w A n c d.ss ∧ Anss w B m e d.an
theorem DeskIs.grew {w w' : World} {A B : Option Addr} {n c m e : Nat} {d : Desk} (h : DeskIs w A n c B m e d) (g : Grew w w') : DeskIs w' A n c B m e d := ⟨h.1.grew g, h.2.grew g⟩

set_option maxRecDepth 100000 in
set_option maxHeartbeats 8000000 in
theorem valid_any (A B : Option Addr) (n c m e : Nat) (d : Desk) (w : World) (h : DeskIs w A n c B m e d) : Calls Try.prog 29 #[.agg #[.slice A n c, .slice B m e]] w fun r w' => r = .returned (.bool (validB d)) ∧ Grew w w' := by
  have HH := Lib.hid h
  have hn63 := h.1.1.le
  have hm63 := h.2.le
  have HL := Lib.hid h.1.1.1
  have HLA := Lib.hid h.2.1
  clear h
  by_cases hn : n ≤ 400
  · have q1 : decide (400 < (n : Int)) = false := decide_eq_false (by omega)
    by_cases hm : m ≤ 2000
    · have q2 : decide (2000 < (m : Int)) = false := decide_eq_false (by omega)
      obtain ⟨wd, hwd⟩ : ∃ x, x = w.alloc (.cells #[.slice A n c, .slice B m e] 25) := ⟨_, rfl⟩
      have G0 : Hid (Grew w wd) := by unfold Hid; rw [hwd]; exact (Grew.refl w).alloc _
      have hrd : wd.rangeAt w.heap.size 0 [.slice A n c, .slice B m e] := by rw [hwd]; exact range_new w _ 25
      have HRD := Lib.hid hrd
      have hC : ∀ w', Grew wd.drew w' → w'.cell? ⟨w.heap.size, 0, none⟩ = some (.slice A n c) ∧ w'.cell? ⟨w.heap.size, 1, none⟩ = some (.slice B m e) := fun w' g' => by
        have h0 := range_grew HRD.out ((Grew.refl wd).drew.trans g') 0 _ rfl
        have h1 := range_grew HRD.out ((Grew.refl wd).drew.trans g') 1 _ rfl
        simp only [Nat.zero_add] at h0 h1
        exact ⟨h0, h1⟩
      clear hrd
      go_enter Try.func29, Try.ntmps29
      go_wp2_with fail
      rw [← hwd]
      clear hwd q1 q2
      refine wp_region_H (by kernel_rfl) (fun w' => Grew wd.drew w') ?_
      refine wpAnyH_takes (fun _ _ _ _ _ h => h) (Grew.refl _) [0, 2, 3] (fuel' := 7) (by kernel_rfl) (by kernel_rfl) (by simp only [pickOps, List.getElem?_toArray, List.getElem?_cons_zero, List.getElem?_cons_succ]; rfl) ?_
      repeat (first
        | (refine TakeP.pure (v := ?_) (by rfl) ?_ ?_; rotate_left; (intro w' g'; obtain ⟨c0, c1⟩ := hC w' g'; go_simp; first | done | with_reducible rfl); (simp only [Act.put, List.setIfInBounds_toArray, List.set_cons_zero, List.set_cons_succ])))
      refine TakeP.nil ?_
      refine wpAnyH_step (i := 1) (by kernel_rfl) (fuel' := 6) (by kernel_rfl) (by simp only [pickOps, List.getElem?_toArray, List.getElem?_cons_zero, List.getElem?_cons_succ]; rfl) (by rfl) ?_
      intro K hK
      refine wp_call 42 #[.agg #[.slice A n c, .slice B m e]] (by go_simp; first | done | rfl) ?_
      refine (pays_any A B n c m e d.ss _ (HH.out.1.grew (G0.out.drew)) (by omega)).mono ?_
      rintro r w5 ⟨A5, n5, c5, rfl, hl5, own5, g5⟩
      have hg5 : Grew wd.drew w5 := g5
      refine ⟨_, rfl, hK _ _ hg5 ?_⟩
      clear hK K
      have HP5 : Hid (Pays w5 A5 n5 c5 (paysOf d)) := ⟨Recs.own hl5 own5, WfP.of HH.out.1.2⟩
      have hn5 : n5 ≤ 410 := by rw [← hl5, List.length_map, HL.out]; omega
      have HA5 := Lib.hid (HH.out.2.grew (G0.out.drew.trans g5))
      clear own5 hl5
      refine wpAnyH_step (i := 4) (by kernel_rfl) (fuel' := 5) (by kernel_rfl) (by simp only [pickOps, List.getElem?_toArray, List.getElem?_cons_zero, List.getElem?_cons_succ]; rfl) (by rfl) ?_
      intro K hK
      refine wp_call 41 #[.slice A5 n5 c5, .slice B m e] (by go_simp; first | done | rfl) ?_
      refine (stands_any A5 B n5 c5 m e (paysOf d) d.an _ HP5.out HA5.out hn5 (by omega)).mono ?_
      rintro r w6 (⟨hso, rfl, g6⟩ | ⟨hso, C6, n6, c6, rfl, hl6, own6, g6⟩)
      · have hg6 : Grew wd.drew w6 := hg5.trans g6
        refine ⟨_, rfl, hK _ _ hg6 ?_⟩
        clear hK K
        have HV : Hid (validB d = false) := by unfold Hid validB; rw [hso]; simp
        have gE := G0.out.drew.trans hg6
        refine wpAnyH_takes (fun _ _ _ _ _ h => h) hg6 [5, 6, 7, 8, 9] (fuel' := 0) (by kernel_rfl) (by kernel_rfl) (by simp only [pickOps, List.getElem?_toArray, List.getElem?_cons_zero, List.getElem?_cons_succ]; rfl) ?_
        repeat (first
          | (refine TakeP.pure (v := ?_) (by rfl) ?_ ?_; rotate_left; (intro w' g'; go_simp; first | done | with_reducible rfl); (simp only [Act.put, List.setIfInBounds_toArray, List.set_cons_zero, List.set_cons_succ])))
        refine TakeP.nil ?_
        refine wpAnyH_done (by kernel_rfl) ?_ _
        clear hC hso
        go_wp2_with fail
        go_ret
        exact ⟨ret_bool HV.out.symm, gE⟩
      · have hg6 : Grew wd.drew w6 := hg5.trans g6
        refine ⟨_, rfl, hK _ _ hg6 ?_⟩
        clear hK K
        have HV : Hid (validB d = decide (standL (paysOf d) d.an = d.ss)) := by unfold Hid validB; rw [hso, decide_eq_true (by rw [HL.out]; exact hn), decide_eq_true (by rw [HLA.out]; exact hm)]; rfl
        have gE := G0.out.drew.trans hg6
        have HS6 : Hid (Recs se 7 w6 C6 n6 c6 (standL (paysOf d) d.an)) := Recs.own hl6 own6
        have HD6 := Lib.hid (HH.out.1.grew gE)
        obtain ⟨e0, e1⟩ := hC w6 hg6
        refine wpAnyH_takes (fun _ _ _ _ _ h => h) hg6 [5, 6, 7, 8, 9] (fuel' := 0) (by kernel_rfl) (by kernel_rfl) (by simp only [pickOps, List.getElem?_toArray, List.getElem?_cons_zero, List.getElem?_cons_succ]; rfl) ?_
        repeat (first
          | (refine TakeP.pure (v := ?_) (by rfl) ?_ ?_; rotate_left; (intro w' g'; go_simp; first | done | with_reducible rfl); (simp only [Act.put, List.setIfInBounds_toArray, List.set_cons_zero, List.set_cons_succ])))
        refine TakeP.nil ?_
        refine wpAnyH_done (by kernel_rfl) ?_ _
        clear hC hso own6 hl6 HP5 HA5
        go_wp2_with fail
        refine (equalS_any _ _ _ _ _ _ _ _ _ HS6.out HD6.out.1).mono ?_
        rintro r w7 ⟨rfl, g7⟩
        go_wp2_with fail
        go_ret
        exact ⟨ret_bool HV.out.symm, gE.trans g7⟩
    · have q2 : decide (2000 < (m : Int)) = true := decide_eq_true (by omega)
      have HV : Hid (validB d = false) := by unfold Hid validB; rw [decide_eq_false (show ¬ d.an.length ≤ 2000 by rw [HLA.out]; exact hm)]; simp
      go_enter Try.func29, Try.ntmps29
      go_wp2_with fail
      go_ret
      exact ⟨ret_bool HV.out.symm, (Grew.refl w).alloc _⟩
  · have q1 : decide (400 < (n : Int)) = true := decide_eq_true (by omega)
    have HV : Hid (validB d = false) := by unfold Hid validB; rw [decide_eq_false (show ¬ d.ss.length ≤ 400 by rw [HL.out]; exact hn)]; simp
    go_enter Try.func29, Try.ntmps29
    go_wp2_with fail
    go_ret
    exact ⟨ret_bool HV.out.symm, (Grew.refl w).alloc _⟩
theorem valid_val {A B : Option Addr} {n c m e : Nat} {d : Desk} {w : World} {t : Bool} (h : DeskIs w A n c B m e d) (ht : validB d = t) : Calls Try.prog 29 #[.agg #[.slice A n c, .slice B m e]] w fun r w' => r = .returned (.bool t) ∧ Grew w w' := by subst ht; exact valid_any A B n c m e d w h
end Go.Proofs.Ytaocjobbfcfleaa
