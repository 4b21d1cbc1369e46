/-
  The law OrdersRecording, walked.
-/
import Derived.Test.YtjpnodmcglcihaaRecQ
import Derived.Test.YtjpnodmcglcihaaOpenO
import Derived.Test.YtjpnodmcglcihaaSameO
namespace WageReg
open Go
theorem wpAnyF_phaseW {P : Program} {ops : Array Oper} {Q : Exit → Act → World → Prop} {md : Region.Mode} {G : World → World → Prop} {F : List Nat} (hr0 : ∀ a, G a a) {fuel m : Nat} {listed : Array Bool} {a : Act} {w : World} (hr : Region.ready md ops listed = [m]) (hF : F.contains m = true) (h : ∀ w', G w w' → wpAny P md ops Q fuel listed a w') : wpAnyF P md ops Q G F fuel listed a w :=
  wpAnyF_phase hr0 (by rw [hr]; simp) (by rw [hr]; simpa using hF) h
end WageReg
namespace Go.Proofs.Ytjpnodmcglcihaa
open Go.RowKit Go.Proofs WageMem WageOrd WageRec WageMap WageReg

set_option maxRecDepth 100000 in
set_option maxHeartbeats 8000000 in
theorem rcd_skip (A : Option Addr) (n c : Nat) (l : List Ord) (o : Ord) (mo : Int) (w : World) (_h : Ords w A n c l) (_ho : Wf [o]) (hn : n ≤ 9223372036854775807) (hs : decide (n ≤ 403) = false) : Calls Try.prog 8 #[.slice A n c, .agg #[.int .i64 o.n, .string o.p, .string o.c, .int .i64 o.r, .int .i64 o.k, .int .i64 o.f, .int .i64 o.m, .bool o.fam], .int .i64 mo] w fun e w' => e = .returned (.bool true) ∧ Grew w w' := by
  have HS := Lib.hid hs
  obtain ⟨w0, hw0⟩ : ∃ y, y = w.alloc (.cells #[.int .i64 o.n, .string o.p, .string o.c, .int .i64 o.r, .int .i64 o.k, .int .i64 o.f, .int .i64 o.m, .bool o.fam] 24) := ⟨_, rfl⟩
  have g0 : Grew w w0 := by rw [hw0]; exact (Grew.refl w).alloc _
  clear hs
  go_enter Try.func8, Try.ntmps8
  go_wp2_with fail
  rw [← hw0]
  refine (head_true _).mono ?_
  rintro e v1 ⟨rfl, g1⟩
  go_wp2_with fail
  refine (short_any A n c _ hn HS.out).mono ?_
  rintro e v2 ⟨rfl, g2⟩
  clear hw0
  go_wp2_with fail
  go_ret
  exact ⟨rfl, (g0.trans g1).trans g2⟩

set_option maxRecDepth 100000 in
set_option maxHeartbeats 16000000 in
theorem rcd_main (A : Option Addr) (n c : Nat) (l : List Ord) (o : Ord) (mo : Int) (w : World) (h : Ords w A n c l) (ho : Wf [o]) (hn : n ≤ 403) : Calls Try.prog 8 #[.slice A n c, .agg #[.int .i64 o.n, .string o.p, .string o.c, .int .i64 o.r, .int .i64 o.k, .int .i64 o.f, .int .i64 o.m, .bool o.fam], .int .i64 mo] w fun e w' => e = .returned (.bool true) ∧ Grew w w' := by
  have HS := Lib.hid (decide_eq_true hn)
  have HH := Lib.hid h
  have HL := Lib.hid h.1.1
  have HO := Lib.hid ho
  have WF : Hid (Wf (l ++ [o])) := wf_app h.2 ho
  obtain ⟨w0, hw0⟩ : ∃ y, y = w.alloc (.cells #[.int .i64 o.n, .string o.p, .string o.c, .int .i64 o.r, .int .i64 o.k, .int .i64 o.f, .int .i64 o.m, .bool o.fam] 24) := ⟨_, rfl⟩
  have g0 : Grew w w0 := by rw [hw0]; exact (Grew.refl w).alloc _
  have HR0 : Hid (w0.rangeAt w.heap.size 0 (oe o)) := by rw [hw0]; exact range_new w (oe o) 24
  obtain ⟨⟨more, z⟩, hrec⟩ : ∃ q, recL l o = q := ⟨_, rfl⟩
  have HREC := Lib.hid hrec
  have WM : Hid (Wf more) := by
    by_cases hz : z = 0
    · rw [(rec_ok_inv hrec hz).1]; exact wf_app h.2 ho
    · rw [rec_err hrec hz]; intro x hx; simp at hx
  clear h ho hrec
  go_enter Try.func8, Try.ntmps8
  go_wp2_with fail
  rw [← hw0]
  refine (head_true _).mono ?_
  rintro e v1 ⟨rfl, g1⟩
  go_wp2_with fail
  refine (short_any A n c _ (by omega) HS.out).mono ?_
  rintro e v2 ⟨rfl, g2⟩
  clear hw0
  have gg := (g0.trans g1).trans g2
  replace HH := Lib.hid (HH.out.grew gg)
  have HR3 := Lib.hid (range_grew HR0.out (g1.trans g2))
  have GG := Lib.hid gg
  clear g0 g1 g2 gg HR0
  obtain ⟨c0, c1, c2, c3, c4, c5, c6, c7⟩ := cells24n HR3.out
  go_wp2_with fail
  refine (record_val (o := o) HH.out (by omega) HO.out HREC.out).mono ?_
  rintro e v4 ⟨A4, n4, cc4, rfl, hl4, own4, g4⟩
  have H4 : Hid (Ords v4 A4 n4 cc4 more) := ⟨Recs.own hl4 own4, WM.out⟩
  have HL4 := Lib.hid hl4
  replace HH := Lib.hid (HH.out.grew g4)
  have HR4 := Lib.hid (range_grew HR3.out g4)
  replace GG := Lib.hid (GG.out.trans g4)
  clear c0 c1 c2 c3 c4 c5 c6 c7 hl4 own4 g4 HR3
  by_cases hz : z = 0
  · have qz : (z != 0) = false := by rw [bne_eq_false_iff_eq]; exact hz
    obtain ⟨hmore, hvl, hfo, hvm, _, _⟩ := rec_ok_inv HREC.out hz
    obtain rfl : l ++ [o] = more := hmore.symm
    obtain rfl : n + 1 = n4 := by rw [← HL4.out, List.length_append, HL.out]; rfl
    have HVL := Lib.hid hvl
    have HVM := Lib.hid hvm
    have HFO := Lib.hid hfo
    obtain ⟨b, q, x, eA4, hx, hrx⟩ := H4.out.1.at_ oe_ok (show n < n + 1 by omega)
    subst eA4
    obtain rfl : o = x := by rw [List.getElem?_append_right (by rw [HL.out]; omega), HL.out, Nat.sub_self] at hx; injection hx
    have HRQ := Lib.hid hrx
    have hcap := H4.out.1.cap
    have r1 : ∀ y, (Instr.slice 22 (.slice (some ⟨b, q, none⟩) (n + 1) cc4) none (some (.int .i64 (n : Int))) none).run Try.prog y = .ok (.slice (some ⟨b, q, none⟩) n cc4) y := fun y => run_slice_head y 22 8 elem22 (size22 y) (some ⟨b, q, none⟩) (n + 1) cc4 n .i64 (by omega)
    have m1 : IntKind.i64.wrap ((n : Int) + 1) = (n : Int) + 1 := IntWalk.i64_in _ (by omega)
    have m2 : (n : Int) < (n : Int) + 1 := by omega
    have m3 : (0 : Int) ≤ (n : Int) := by omega
    have hC : ∀ w', Grew v4.drew w' → (w'.cell? ⟨w.heap.size, 0, none⟩ = some (.int .i64 o.n) ∧ w'.cell? ⟨w.heap.size, 1, none⟩ = some (.string o.p) ∧ w'.cell? ⟨w.heap.size, 2, none⟩ = some (.string o.c) ∧ w'.cell? ⟨w.heap.size, 3, none⟩ = some (.int .i64 o.r) ∧ w'.cell? ⟨w.heap.size, 4, none⟩ = some (.int .i64 o.k) ∧ w'.cell? ⟨w.heap.size, 5, none⟩ = some (.int .i64 o.f) ∧ w'.cell? ⟨w.heap.size, 6, none⟩ = some (.int .i64 o.m) ∧ w'.cell? ⟨w.heap.size, 7, none⟩ = some (.bool o.fam)) ∧ w'.cell? ⟨b, q + n * 8, none⟩ = some (.int .i64 o.n) ∧ w'.cell? ⟨b, q + n * 8 + 1, none⟩ = some (.string o.p) ∧ w'.cell? ⟨b, q + n * 8 + 2, none⟩ = some (.string o.c) ∧ w'.cell? ⟨b, q + n * 8 + 3, none⟩ = some (.int .i64 o.r) ∧ w'.cell? ⟨b, q + n * 8 + 4, none⟩ = some (.int .i64 o.k) ∧ w'.cell? ⟨b, q + n * 8 + 5, none⟩ = some (.int .i64 o.f) ∧ w'.cell? ⟨b, q + n * 8 + 6, none⟩ = some (.int .i64 o.m) ∧ w'.cell? ⟨b, q + n * 8 + 7, none⟩ = some (.bool o.fam) := fun w' g' => ⟨cells24n (range_grew HR4.out ((Grew.refl v4).drew.trans g')), cells24 (range_grew HRQ.out ((Grew.refl v4).drew.trans g'))⟩
    have HTK : Hid (∀ w', Grew v4.drew w' → Ords w' (some ⟨b, q, none⟩) n cc4 l) := fun w' g' => ⟨by have := (H4.out.1.grew ((Grew.refl v4).drew.trans g')).head oe_ok (q := n) (k := cc4) (by omega) (by omega) (Nat.le_refl _); rwa [List.take_left' HL.out] at this, HH.out.2⟩
    have HHD : Hid (∀ w', Grew v4.drew w' → Ords w' A n c l) := fun w' g' => HH.out.grew ((Grew.refl v4).drew.trans g')
    have HMD : Hid (∀ w', Grew v4.drew w' → Ords w' (some ⟨b, q, none⟩) (n + 1) cc4 (l ++ [o])) := fun w' g' => H4.out.grew ((Grew.refl v4).drew.trans g')
    have GV := Lib.hid (GG.out.drew)
    clear hz hmore hvl hfo hvm hx hrx
    go_wp2_with fail
    refine wp_region_seq (by kernel_rfl) Grew.refl (fun _ _ _ => Grew.trans) (fun _ _ _ _ _ h => h) (by kernel_rfl) ?_
    repeat (first
      | (refine TakeAll.pure (v := ?_) (by rfl) ?_ ?_; rotate_left; (intro w' g'; obtain ⟨⟨c0, c1, c2, c3, c4, c5, c6, c7⟩, d0, d1, d2, d3, d4, d5, d6, d7⟩ := hC w' g'; go_simp; first | done | with_reducible rfl); (simp only [Act.put, List.setIfInBounds_toArray, List.set_cons_zero, List.set_cons_succ]))
      | (refine TakeAll.skip (by rfl) ?_; (simp only [Act.put, List.setIfInBounds_toArray, List.set_cons_zero, List.set_cons_succ])))
    refine TakeAll.call (by rfl) 16 _ (fun _ => by go_simp; first | done | rfl) (fun w' g' => same_val (HTK.out w' g') (HHD.out w' g') (decide_eq_true rfl)) ?_
    simp only [Act.put, List.setIfInBounds_toArray, List.set_cons_zero, List.set_cons_succ]
    repeat (first
      | (refine TakeAll.pure (v := ?_) (by rfl) ?_ ?_; rotate_left; (intro w' g'; obtain ⟨⟨c0, c1, c2, c3, c4, c5, c6, c7⟩, d0, d1, d2, d3, d4, d5, d6, d7⟩ := hC w' g'; go_simp; first | done | with_reducible rfl); (simp only [Act.put, List.setIfInBounds_toArray, List.set_cons_zero, List.set_cons_succ]))
      | (refine TakeAll.skip (by rfl) ?_; (simp only [Act.put, List.setIfInBounds_toArray, List.set_cons_zero, List.set_cons_succ])))
    refine TakeAll.call (by rfl) 14 _ (fun _ => by go_simp; first | done | rfl) (fun w' g' => valid_val (HMD.out w' g') HVM.out) ?_
    simp only [Act.put, List.setIfInBounds_toArray, List.set_cons_zero, List.set_cons_succ]
    repeat (first
      | (refine TakeAll.pure (v := ?_) (by rfl) ?_ ?_; rotate_left; (intro w' g'; go_simp; first | done | with_reducible rfl); (simp only [Act.put, List.setIfInBounds_toArray, List.set_cons_zero, List.set_cons_succ]))
      | (refine TakeAll.skip (by rfl) ?_; (simp only [Act.put, List.setIfInBounds_toArray, List.set_cons_zero, List.set_cons_succ])))
    refine TakeAll.nil ?_
    intro v5 g5
    have G5 := Lib.hid (GV.out.trans g5)
    have HO5 := Lib.hid (HMD.out v5 g5)
    have HH5 := Lib.hid (HHD.out v5 g5)
    have HR5 := Lib.hid (range_grew HR4.out ((Grew.refl v4).drew.trans g5))
    clear hC HTK HHD HMD GV r1 m1 m2 m3 qz g5 HRQ H4 HH HR4 GG
    obtain ⟨r1, hr1⟩ : ∃ r, openL (l ++ [o]) o.p mo o.k = r := ⟨_, rfl⟩
    obtain ⟨r2, hr2⟩ : ∃ r, openL l o.p mo o.k = r := ⟨_, rfl⟩
    have HOWN : Hid (∀ y ∈ r1, y.n = o.n → y = o) := fun y hy hn => more_own HVM.out (by rw [hr1]; exact hy) hn
    have HSEE : Hid (seenB r1 o.n r1.length = (decide (0 < o.m) && decide (o.f ≤ mo))) := by unfold Hid; rw [← op_form HFO.out, ← hr1]; exact more_seen HVM.out
    have HKP : Hid (keepL r1 o.n r1.length = keepL r2 o.n r2.length) := by unfold Hid; rw [← hr1, ← hr2]; exact more_keep HVL.out HVM.out
    have HR1 := Lib.hid hr1
    have HR2 := Lib.hid hr2
    clear hr1 hr2
    obtain ⟨o0, o1, o2, o3, o4, o5, o6, o7⟩ := cells24n HR5.out
    go_wp2_with fail
    refine (open_val HO5.out (by omega) HR1.out).mono ?_
    rintro e v6 ⟨A6, n5, c6, rfl, h6, g6⟩
    have H6 := Lib.hid h6
    have L5 := Lib.hid h6.1.1
    have hn5 : n5 ≤ 410 := by rw [← h6.1.1, ← HR1.out]; have := openL_len (l ++ [o]) o.p mo o.k; rw [List.length_append, HL.out] at this; simp at this; omega
    have G6 := Lib.hid (G5.out.trans g6)
    have HH6 := Lib.hid (HH5.out.grew g6)
    have HR6 := Lib.hid (range_grew HR5.out g6)
    clear o0 o1 o2 o3 o4 o5 o6 o7 h6 g6 HO5 HH5 HR5 G5
    obtain ⟨i0, hi, hz0, hz1, hz2⟩ := info_parts info24
    obtain ⟨vl, rfl⟩ : ∃ vl : World, vl = v6 := ⟨_, rfl⟩
    go_wp2_with fail
    go_loopw [10, 11, 83] (fun v f i y => ∃ (k : Nat) (Al : Option Addr) (j cl : Nat) (t : Bool), k ≤ n5 ∧ i = .int .i64 k ∧ v = .slice Al j cl ∧ f = .bool t ∧ Hid (t = seenB r1 o.n k) ∧ Hid ((keepL r1 o.n k).length = j) ∧ Hid (y.ownsRow vl.heap.size 24 8 (.slice Al j cl) j (flatO (keepL r1 o.n k))) ∧ Hid (Grew vl y)) (fun _ _ i _ => n5 - (intOf i).toNat)
    case atStart => exact ⟨0, none, 0, 0, false, Nat.zero_le _, rfl, rfl, rfl, rfl, rfl, World.ownsRow_nil _ _ _ _, Grew.refl _⟩
    case round =>
      obtain ⟨wo, rfl⟩ : ∃ wo : World, wo = wr := ⟨_, rfl⟩
      obtain ⟨k, Al, j, cl, t, hk, rfl, rfl, rfl, HT, EL, OW, hg⟩ := hrel
      have hjk := keep_len (r := r1) (a := o.n) (k := k)
      rw [EL.out] at hjk
      have hle := hg.out.le
      by_cases hlt : k < n5
      · obtain ⟨b, q, x, eB, hx, hr⟩ := (H6.out.1.grew hg.out).at_ oe_ok hlt
        subst eB
        have k0 : (0 : Int) ≤ (k : Int) := by omega
        have k1 : (k : Int) < (n5 : Int) := by omega
        obtain ⟨wa, hwa⟩ : ∃ y, y = wo.alloc (.cells #[.int .i64 x.n, .string x.p, .string x.c, .int .i64 x.r, .int .i64 x.k, .int .i64 x.f, .int .i64 x.m, .bool x.fam] 24) := ⟨_, rfl⟩
        have ga : Grew wo wa := by rw [hwa]; exact (Grew.refl wo).alloc _
        have hrx : wa.rangeAt wo.heap.size 0 (oe x) := by rw [hwa]; exact range_new wo (oe x) 24
        by_cases hn0 : x.n = o.n
        · obtain rfl : o = x := (HOWN.out x (List.mem_of_getElem? hx) hn0).symm
          have HX := Lib.hid hx
          obtain ⟨c0, c1, c2, c3, c4, c5, c6, c7⟩ := cells24 hr
          obtain ⟨x0, x1, x2, x3, x4, x5, x6, x7⟩ := cells24n hrx
          obtain ⟨o0, o1, o2, o3, o4, o5, o6, o7⟩ := cells24n (range_grew HR6.out (hg.out.trans ga))
          have HT2 : Hid (true = seenB r1 o.n (k + 1)) := (seen_in HX.out rfl).symm
          have EL2 : Hid ((keepL r1 o.n (k + 1)).length = j) := by unfold Hid; rw [keep_out HX.out rfl]; exact EL.out
          have OW2 : Hid (wa.ownsRow vl.heap.size 24 8 (.slice Al j cl) j (flatO (keepL r1 o.n (k + 1)))) := by unfold Hid; rw [keep_out HX.out rfl]; exact own_grew OW.out ga
          have gE := Lib.hid (hg.out.trans ga)
          have qe : eqO o o = true := decide_eq_true rfl
          have hneq := neq24 wa o o
          rw [qe] at hneq
          have hgd := fun a b => guard24 wa .neq a b o o
          simp only [ov_eq] at hneq hgd
          clear hn0 hx hr hrx qe
          go_upto_region 14 with (fail)
          rw [← hwa]
          clear hwa c0 c1 c2 c3 c4 c5 c6 c7
          go_wp2_with fail
          go_roundw
          case rel => exact ⟨k + 1, Al, j, cl, true, by omega, by go_num, rfl, rfl, HT2, EL2, OW2, gE⟩
          case measure => simp [intOf]; omega
        · have qn : (x.n == o.n) = false := by rw [beq_eq_false_iff_ne]; exact hn0
          have HX := Lib.hid hx
          obtain ⟨c0, c1, c2, c3, c4, c5, c6, c7⟩ := cells24 hr
          obtain ⟨x0, x1, x2, x3, x4, x5, x6, x7⟩ := cells24n hrx
          obtain ⟨o0, o1, o2, o3, o4, o5, o6, o7⟩ := cells24n (range_grew HR6.out (hg.out.trans ga))
          have HN := Lib.hid hn0
          have BI := Lib.hid (Recs.built (w := wa) oe_ok (t := 24) (l := [x]) (n := 1) #[.int .i64 x.n, .string x.p, .string x.c, .int .i64 x.r, .int .i64 x.k, .int .i64 x.f, .int .i64 x.m, .bool x.fam] rfl rfl (by decide))
          have hla := ga.le
          clear hn0 hx hr hrx
          go_upto_region 14 with (fail)
          rw [← hwa]
          clear hwa c0 c1 c2 c3 c4 c5 c6 c7
          go_wp2_with (at_builtin; refine wpList_append_sl _ rfl (.tmp 95) (.tmp 97) 22 rfl vl.heap.size 24 i0 _ 8 80 Try.underlying22 hi hz0 hz1 hz2 rfl (by decide) (.slice Al j cl) j _ rfl ((own_grew OW.out ga).alloc _) (some ⟨wa.heap.size, 0, none⟩) 1 1 _ rfl BI.out.2 (flat_one oe_ok _) (by unfold maxLen; omega) (by omega) (by simp; omega) ?_; intro v3 w3 own3 hg3 hat3; obtain ⟨A3, c3, rfl⟩ := own_form own3)
          have HT2 : Hid (t = seenB r1 o.n (k + 1)) := by unfold Hid; rw [seen_out HX.out HN.out]; exact HT.out
          have EL2 : Hid ((keepL r1 o.n (k + 1)).length = j + 1) := by unfold Hid; rw [keep_in HX.out HN.out, List.length_append, EL.out]; rfl
          have OW2 : Hid (w3.ownsRow vl.heap.size 24 8 (.slice A3 (j + 1) c3) (j + 1) (flatO (keepL r1 o.n (k + 1)))) := by unfold Hid flatO; rw [keep_in HX.out HN.out, List.flatMap_append]; exact own3
          have gE := Lib.hid (((hg.out.trans ga).alloc _).grown hg3 (fun y hy => ((own_grew OW.out ga).lt y hy).1))
          clear own3 hg3 hat3 BI
          go_wp2_with fail
          go_roundw
          case rel => exact ⟨k + 1, A3, j + 1, c3, t, by omega, by go_num, rfl, rfl, HT2, EL2, OW2, gE⟩
          case measure => simp [intOf]; omega
      · obtain rfl : n5 = k := by omega
        have HO1' : Hid (Ords wo Al j cl (keepL r1 o.n n5)) := ⟨Recs.own EL.out OW.out, fun y hy => H6.out.2 y (keep_mem hy)⟩
        replace HT : Hid (t = (decide (0 < o.m) && decide (o.f ≤ mo))) := by unfold Hid; rw [HT.out, ← HSEE.out, L5.out]
        replace HKP : Hid (keepL r1 o.n n5 = keepL r2 o.n r2.length) := by unfold Hid; rw [← HKP.out, L5.out]
        have G6' := Lib.hid (G6.out.trans hg.out)
        have HH6' := Lib.hid (HH6.out.grew hg.out)
        have HR6' := Lib.hid (range_grew HR6.out hg.out)
        clear EL OW HSEE HOWN G6 HH6 HR6 H6 L5 hg
        obtain ⟨o0, o1, o2, o3, o4, o5, o6, o7⟩ := cells24n HR6'.out
        obtain ⟨B1, hB1⟩ : ∃ B, B = Al := ⟨_, rfl⟩
        obtain ⟨j1, hj1⟩ : ∃ B, B = j := ⟨_, rfl⟩
        obtain ⟨cb1, hcb1⟩ : ∃ B, B = cl := ⟨_, rfl⟩
        subst hB1 hj1 hcb1
        go_wp2_with fail
        refine (open_val HH6'.out (by omega) HR2.out).mono ?_
        rintro e v7 ⟨A7, n7, c7, rfl, h7, g7⟩
        have H7 := Lib.hid h7
        have L7 := Lib.hid h7.1.1
        have hn7 : n7 ≤ 410 := by rw [← h7.1.1, ← HR2.out]; have := openL_len l o.p mo o.k; rw [HL.out] at this; omega
        have G7 := Lib.hid (G6'.out.trans g7)
        have HO1 := Lib.hid (HO1'.out.grew g7)
        have HR7 := Lib.hid (range_grew HR6'.out g7)
        clear o0 o1 o2 o3 o4 o5 o6 o7 h7 g7 HO1' G6' HH6' HR6' hle
        obtain ⟨vm, rfl⟩ : ∃ vm : World, vm = v7 := ⟨_, rfl⟩
        go_wp2_with fail
        go_loopw [14, 108] (fun v i y => ∃ (k : Nat) (Al : Option Addr) (j cl : Nat), k ≤ n7 ∧ i = .int .i64 k ∧ v = .slice Al j cl ∧ Hid ((keepL r2 o.n k).length = j) ∧ Hid (y.ownsRow vm.heap.size 24 8 (.slice Al j cl) j (flatO (keepL r2 o.n k))) ∧ Hid (Grew vm y)) (fun _ i _ => n7 - (intOf i).toNat)
        case atStart => exact ⟨0, none, 0, 0, Nat.zero_le _, rfl, rfl, rfl, World.ownsRow_nil _ _ _ _, Grew.refl _⟩
        case round =>
          obtain ⟨wo, rfl⟩ : ∃ wo : World, wo = wr := ⟨_, rfl⟩
          obtain ⟨k, Al, j, cl, hk, rfl, rfl, EL, OW, hg⟩ := hrel
          have hjk := keep_len (r := r2) (a := o.n) (k := k)
          rw [EL.out] at hjk
          have hle := hg.out.le
          by_cases hlt : k < n7
          · obtain ⟨b, q, x, eB, hx, hr⟩ := (H7.out.1.grew hg.out).at_ oe_ok hlt
            subst eB
            have HX := Lib.hid hx
            have k0 : (0 : Int) ≤ (k : Int) := by omega
            have k1 : (k : Int) < (n7 : Int) := by omega
            obtain ⟨c0, c1, c2, c3, c4, c5, c6, c7⟩ := cells24 hr
            obtain ⟨wa, hwa⟩ : ∃ y, y = wo.alloc (.cells #[.int .i64 x.n, .string x.p, .string x.c, .int .i64 x.r, .int .i64 x.k, .int .i64 x.f, .int .i64 x.m, .bool x.fam] 24) := ⟨_, rfl⟩
            have ga : Grew wo wa := by rw [hwa]; exact (Grew.refl wo).alloc _
            have hrx : wa.rangeAt wo.heap.size 0 (oe x) := by rw [hwa]; exact range_new wo (oe x) 24
            obtain ⟨x0, x1, x2, x3, x4, x5, x6, x7⟩ := cells24n hrx
            obtain ⟨o0, o1, o2, o3, o4, o5, o6, o7⟩ := cells24n (range_grew HR7.out (hg.out.trans ga))
            clear hx hr hrx
            by_cases hn0 : x.n = o.n
            · have qn : (x.n != o.n) = false := by rw [bne_eq_false_iff_eq]; exact hn0
              have EL2 : Hid ((keepL r2 o.n (k + 1)).length = j) := by unfold Hid; rw [keep_out HX.out hn0]; exact EL.out
              have OW2 : Hid (wa.ownsRow vm.heap.size 24 8 (.slice Al j cl) j (flatO (keepL r2 o.n (k + 1)))) := by unfold Hid; rw [keep_out HX.out hn0]; exact own_grew OW.out ga
              have gE := Lib.hid (hg.out.trans ga)
              clear hn0
              go_upto_region 24 with (fail)
              rw [← hwa]
              clear hwa c0 c1 c2 c3 c4 c5 c6 c7
              go_wp2_with fail
              go_roundw
              case rel => exact ⟨k + 1, Al, j, cl, by omega, by go_num, rfl, EL2, OW2, gE⟩
              case measure => simp [intOf]; omega
            · have qn : (x.n != o.n) = true := by rw [bne_iff_ne]; exact hn0
              have HN := Lib.hid hn0
              have BI := Lib.hid (Recs.built (w := wa) oe_ok (t := 24) (l := [x]) (n := 1) #[.int .i64 x.n, .string x.p, .string x.c, .int .i64 x.r, .int .i64 x.k, .int .i64 x.f, .int .i64 x.m, .bool x.fam] rfl rfl (by decide))
              have hla := ga.le
              clear hn0
              go_upto_region 24 with (fail)
              rw [← hwa]
              clear hwa c0 c1 c2 c3 c4 c5 c6 c7
              go_wp2_with (at_builtin; refine wpList_append_sl _ rfl (.tmp 117) (.tmp 119) 22 rfl vm.heap.size 24 i0 _ 8 80 Try.underlying22 hi hz0 hz1 hz2 rfl (by decide) (.slice Al j cl) j _ rfl ((own_grew OW.out ga).alloc _) (some ⟨wa.heap.size, 0, none⟩) 1 1 _ rfl BI.out.2 (flat_one oe_ok _) (by unfold maxLen; omega) (by omega) (by simp; omega) ?_; intro v3 w3 own3 hg3 hat3; obtain ⟨A3, c3, rfl⟩ := own_form own3)
              have EL2 : Hid ((keepL r2 o.n (k + 1)).length = j + 1) := by unfold Hid; rw [keep_in HX.out HN.out, List.length_append, EL.out]; rfl
              have OW2 : Hid (w3.ownsRow vm.heap.size 24 8 (.slice A3 (j + 1) c3) (j + 1) (flatO (keepL r2 o.n (k + 1)))) := by unfold Hid flatO; rw [keep_in HX.out HN.out, List.flatMap_append]; exact own3
              have gE := Lib.hid (((hg.out.trans ga).alloc _).grown hg3 (fun y hy => ((own_grew OW.out ga).lt y hy).1))
              clear own3 hg3 hat3 BI
              go_wp2_with fail
              go_roundw
              case rel => exact ⟨k + 1, A3, j + 1, c3, by omega, by go_num, rfl, EL2, OW2, gE⟩
              case measure => simp [intOf]; omega
          · have HK2 : Hid (keepL r1 o.n n5 = keepL r2 o.n k) := by unfold Hid; rw [show k = r2.length by rw [L7.out]; omega]; exact HKP.out
            have HE2 : Hid (Ords wo Al j cl (keepL r2 o.n k)) := ⟨Recs.own EL.out OW.out, fun y hy => H7.out.2 y (keep_mem hy)⟩
            have HE1 : Hid (Ords wo B1 j1 cb1 (keepL r2 o.n k)) := by unfold Hid; rw [← HK2.out]; exact HO1.out.grew hg.out
            have GEND := Lib.hid (G7.out.trans hg.out)
            obtain ⟨o0, o1, o2, o3, o4, o5, o6, o7⟩ := cells24n (range_grew HR7.out hg.out)
            clear EL OW HK2
            by_cases hm0 : 0 < o.m
            · have qm : decide (0 < o.m) = true := decide_eq_true hm0
              by_cases hf0 : o.f ≤ mo
              · have qf : decide (o.f ≤ mo) = true := decide_eq_true hf0
                obtain rfl : t = true := by rw [HT.out, qm, qf]; rfl
                go_wp2_with fail
                refine (same_val HE1.out HE2.out (decide_eq_true rfl)).mono ?_
                rintro e w9 ⟨rfl, g9⟩
                have gE := GEND.out.trans g9
                go_wp2_with fail
                go_ret
                exact ⟨rfl, gE⟩
              · have qf : decide (o.f ≤ mo) = false := decide_eq_false hf0
                obtain rfl : t = false := by rw [HT.out, qm, qf]; rfl
                go_wp2_with fail
                refine (same_val HE1.out HE2.out (decide_eq_true rfl)).mono ?_
                rintro e w9 ⟨rfl, g9⟩
                have gE := GEND.out.trans g9
                go_wp2_with fail
                go_ret
                exact ⟨rfl, gE⟩
            · have qm : decide (0 < o.m) = false := decide_eq_false hm0
              obtain rfl : t = false := by rw [HT.out, qm]; rfl
              go_wp2_with fail
              refine (same_val HE1.out HE2.out (decide_eq_true rfl)).mono ?_
              rintro e w9 ⟨rfl, g9⟩
              have gE := GEND.out.trans g9
              go_wp2_with fail
              go_ret
              exact ⟨rfl, gE⟩
  · have HBAD := Lib.hid (rec_bad HREC.out hz)
    obtain rfl : [] = more := (rec_err HREC.out hz).symm
    obtain rfl : 0 = n4 := HL4.out
    have qz : (z != 0) = true := by rw [bne_iff_ne]; exact hz
    have hC : ∀ w', Grew v4.drew w' → w'.cell? ⟨w.heap.size, 0, none⟩ = some (.int .i64 o.n) ∧ w'.cell? ⟨w.heap.size, 1, none⟩ = some (.string o.p) ∧ w'.cell? ⟨w.heap.size, 2, none⟩ = some (.string o.c) ∧ w'.cell? ⟨w.heap.size, 3, none⟩ = some (.int .i64 o.r) ∧ w'.cell? ⟨w.heap.size, 4, none⟩ = some (.int .i64 o.k) ∧ w'.cell? ⟨w.heap.size, 5, none⟩ = some (.int .i64 o.f) ∧ w'.cell? ⟨w.heap.size, 6, none⟩ = some (.int .i64 o.m) ∧ w'.cell? ⟨w.heap.size, 7, none⟩ = some (.bool o.fam) := fun w' g' => cells24n (range_grew HR4.out ((Grew.refl v4).drew.trans g'))
    have GV := Lib.hid (GG.out.drew)
    have HHV := Lib.hid (HH.out.grew (Grew.refl v4).drew)
    clear hz
    go_wp2_with fail
    refine wp_region_F (G := Grew) (by kernel_rfl) Grew.refl [12] ?_
    refine wpAnyF_takes Grew.refl (fun _ _ _ => Grew.trans) (fun _ _ _ _ _ h => h) [0, 1, 2, 3, 4, 5, 6, 8, 10] (fuel' := 8) (by kernel_rfl) (by kernel_rfl) (by simp only [pickOps, List.getElem?_toArray, List.getElem?_cons_zero, List.getElem?_cons_succ]; rfl) ?_
    repeat (first
      | (refine TakeAll.pure (v := ?_) (by rfl) ?_ ?_; rotate_left; (intro w' g'; obtain ⟨c0, c1, c2, c3, c4, c5, c6, c7⟩ := hC w' g'; go_simp; first | done | with_reducible rfl); (simp only [Act.put, List.setIfInBounds_toArray, List.set_cons_zero, List.set_cons_succ]))
      | (refine TakeAll.skip (by rfl) ?_; (simp only [Act.put, List.setIfInBounds_toArray, List.set_cons_zero, List.set_cons_succ])))
    refine TakeAll.nil ?_
    clear hC qz
    obtain ⟨i0, hi, hz0, hz1, hz2⟩ := info_parts info24
    refine wpAnyF_twoW (i := 7) (j := 11) (by kernel_rfl) (fuel' := 7) (by kernel_rfl) (by simp only [pickOps, List.getElem?_toArray, List.getElem?_cons_zero, List.getElem?_cons_succ]; rfl) (by rfl) (by simp only [pickOps, List.getElem?_toArray, List.getElem?_cons_zero, List.getElem?_cons_succ]; rfl) (by rfl) ?_ ?_
    · intro w1 g1 K hK
      have HLE := (GV.out.trans g1).le
      go_simp
      have ga0 := (Grew.refl w1).alloc (.cells #[] 24)
      refine hK _ _ ga0 ?_
      clear hK K
      have OW0 := Lib.hid (World.ownsRow_made (base := w.heap.size) (e := 24) (size := 8) w1 #[] 0 HLE (by decide) rfl)
      obtain ⟨w2, hwo⟩ : ∃ y, y = w1.alloc (.cells #[] 24) := ⟨_, rfl⟩
      rw [← hwo] at OW0 ga0 ⊢
      obtain ⟨z0, hz0'⟩ : ∃ z, z = w1.heap.size := ⟨_, rfl⟩
      rw [← hz0'] at OW0 ⊢
      clear hwo hz0'
      try simp only [Act.put, List.setIfInBounds_toArray, List.set_cons_zero, List.set_cons_succ]
      refine wpAnyF_twoW (i := 9) (j := 11) (by kernel_rfl) (fuel' := 6) (by kernel_rfl) (by simp only [pickOps, List.getElem?_toArray, List.getElem?_cons_zero, List.getElem?_cons_succ]; rfl) (by rfl) (by simp only [pickOps, List.getElem?_toArray, List.getElem?_cons_zero, List.getElem?_cons_succ]; rfl) (by rfl) ?_ ?_
      · intro w3 g3 K hK
        replace HLE := (((GV.out.trans g1).trans ga0).trans g3).le
        replace OW0 := Lib.hid (own_grew OW0.out g3)
        have HSRC := Lib.hid ((HHV.out.grew ((g1.trans ga0).trans g3)).1.2)
        obtain ⟨va, w4, runa, owna, gapp⟩ := run_append_empty (P := Try.prog) w3 w.heap.size 22 22 24 i0 _ 8 80 Try.underlying22 hi hz0 hz1 hz2 rfl (by decide) _ OW0.out A n c (flatO l) HSRC.out (by omega) (by omega) HLE
        obtain ⟨A4, c4', rfl⟩ := own_form owna
        refine wp_append_run w3 (.tmp 37) (.tmp 38) 22 22 rfl rfl rfl runa ?_
        refine hK _ _ gapp ?_
        clear hK K runa
        have OWC := Lib.hid owna
        clear owna
        simp only [Act.put, List.setIfInBounds_toArray, List.set_cons_zero, List.set_cons_succ]
        refine wpAnyF_step (i := 11) (by kernel_rfl) (fuel' := 5) (by kernel_rfl) (by simp only [pickOps, List.getElem?_toArray, List.getElem?_cons_zero, List.getElem?_cons_succ]; rfl) (by rfl) ?_
        intro w5 g5 K hK
        go_simp
        have ga1 := (Grew.refl w5).alloc (.cells #[.int .i64 o.n, .string o.p, .string o.c, .int .i64 o.r, .int .i64 o.k, .int .i64 o.f, .int .i64 o.m, .bool o.fam] 24)
        refine hK _ _ ga1 ?_
        clear hK K
        have BI := Lib.hid (Recs.built (w := w5) oe_ok (t := 24) (l := [o]) (n := 1) #[.int .i64 o.n, .string o.p, .string o.c, .int .i64 o.r, .int .i64 o.k, .int .i64 o.f, .int .i64 o.m, .bool o.fam] rfl rfl (by decide))
        obtain ⟨w6, hwo⟩ : ∃ y, y = w5.alloc (.cells #[.int .i64 o.n, .string o.p, .string o.c, .int .i64 o.r, .int .i64 o.k, .int .i64 o.f, .int .i64 o.m, .bool o.fam] 24) := ⟨_, rfl⟩
        rw [← hwo] at BI ga1 ⊢
        obtain ⟨z1, hz1'⟩ : ∃ z, z = w5.heap.size := ⟨_, rfl⟩
        rw [← hz1'] at BI ⊢
        clear hwo hz1'
        try simp only [Act.put, List.setIfInBounds_toArray, List.set_cons_zero, List.set_cons_succ]
        replace OWC := Lib.hid (own_grew OWC.out (g5.trans ga1))
        have GALL : Grew w w6 := (((((GV.out.trans g1).trans ga0).trans g3).trans gapp).trans g5).trans ga1
        clear g1 ga0 g3 gapp g5 ga1 HSRC OW0 HLE
        refine wpAnyF_phaseW Grew.refl (m := 12) (by kernel_rfl) (by kernel_rfl) ?_
        intro w7 g7
        refine wpAny_step (i := 12) (by kernel_rfl) (fuel' := 4) (by kernel_rfl) (by simp only [pickOps, List.getElem?_toArray, List.getElem?_cons_zero, List.getElem?_cons_succ]; rfl) (by rfl) ?_
        intro K hK
        have hsz := (GALL.trans g7).le
        obtain ⟨v8, w8, run8, own8, gr8, _⟩ := run_append_sl (P := Try.prog) w7 w.heap.size 22 22 24 i0 _ 8 80 Try.underlying22 hi hz0 hz1 hz2 rfl (by decide) _ n _ (own_grew OWC.out g7) _ 1 1 (flatO [o]) (BI.out.2.grew g7) (flat_one oe_ok _) (by unfold maxLen; omega) (by omega) hsz
        obtain ⟨A8, c8, rfl⟩ := own_form own8
        refine wp_append_run w7 (.tmp 39) (.tmp 41) 22 22 rfl rfl rfl run8 ?_
        refine hK _ _ ?_
        clear hK K run8
        simp only [Act.put, List.setIfInBounds_toArray, List.set_cons_zero, List.set_cons_succ]
        have GE8 : Grew w w8 := (GALL.trans g7).grown gr8 (fun j hj => (own_grew OWC.out g7).lt j hj |>.1)
        have HO8 : Hid (Ords w8 A8 (n + 1) c8 (l ++ [o])) := ⟨Recs.own (base := w.heap.size) (e := 24) (by rw [List.length_append, HL.out]; rfl) (by rw [List.flatMap_append]; exact own8), WF.out⟩
        clear own8 gr8
        refine wpAny_step (i := 13) (by kernel_rfl) (fuel' := 3) (by kernel_rfl) (by simp only [pickOps, List.getElem?_toArray, List.getElem?_cons_zero, List.getElem?_cons_succ]; rfl) (by rfl) ?_
        intro K hK
        refine wp_call 15 _ (by go_simp; first | done | rfl) ?_
        refine (rvalid_val HO8.out HBAD.out).mono ?_
        rintro e w9 ⟨rfl, g9⟩
        refine ⟨_, rfl, hK _ _ ?_⟩
        clear hK K
        simp only [Act.put, List.setIfInBounds_toArray, List.set_cons_zero, List.set_cons_succ]
        refine wpAny_rest (fun _ _ _ _ _ h => h) [14, 15, 16] (by kernel_rfl) (by kernel_rfl) (by kernel_rfl) (by simp only [pickOps, List.getElem?_toArray, List.getElem?_cons_zero, List.getElem?_cons_succ]; rfl) ?_
        repeat (first
          | (refine TakeAll.pure (v := ?_) (by rfl) ?_ ?_; rotate_left; (intro w' g'; go_simp; first | done | with_reducible rfl); (simp only [Act.put, List.setIfInBounds_toArray, List.set_cons_zero, List.set_cons_succ]))
          | (refine TakeAll.skip (by rfl) ?_; (simp only [Act.put, List.setIfInBounds_toArray, List.set_cons_zero, List.set_cons_succ])))
        refine TakeAll.nil ?_
        have gE := GE8.trans g9
        go_wp2_with fail
        go_ret
        exact ⟨rfl, gE⟩
      · intro w3 g3 K hK
        go_simp
        have ga1 := (Grew.refl w3).alloc (.cells #[.int .i64 o.n, .string o.p, .string o.c, .int .i64 o.r, .int .i64 o.k, .int .i64 o.f, .int .i64 o.m, .bool o.fam] 24)
        refine hK _ _ ga1 ?_
        clear hK K
        have BI := Lib.hid (Recs.built (w := w3) oe_ok (t := 24) (l := [o]) (n := 1) #[.int .i64 o.n, .string o.p, .string o.c, .int .i64 o.r, .int .i64 o.k, .int .i64 o.f, .int .i64 o.m, .bool o.fam] rfl rfl (by decide))
        obtain ⟨w4, hwo⟩ : ∃ y, y = w3.alloc (.cells #[.int .i64 o.n, .string o.p, .string o.c, .int .i64 o.r, .int .i64 o.k, .int .i64 o.f, .int .i64 o.m, .bool o.fam] 24) := ⟨_, rfl⟩
        rw [← hwo] at BI ga1 ⊢
        obtain ⟨z1, hz1'⟩ : ∃ z, z = w3.heap.size := ⟨_, rfl⟩
        rw [← hz1'] at BI ⊢
        clear hwo hz1'
        try simp only [Act.put, List.setIfInBounds_toArray, List.set_cons_zero, List.set_cons_succ]
        refine wpAnyF_step (i := 9) (by kernel_rfl) (fuel' := 5) (by kernel_rfl) (by simp only [pickOps, List.getElem?_toArray, List.getElem?_cons_zero, List.getElem?_cons_succ]; rfl) (by rfl) ?_
        intro w5 g5 K hK
        replace HLE := (((((GV.out.trans g1).trans ga0).trans g3).trans ga1).trans g5).le
        replace OW0 := Lib.hid (own_grew OW0.out ((g3.trans ga1).trans g5))
        have HSRC := Lib.hid ((HHV.out.grew ((((g1.trans ga0).trans g3).trans ga1).trans g5)).1.2)
        obtain ⟨va, w6, runa, owna, gapp⟩ := run_append_empty (P := Try.prog) w5 w.heap.size 22 22 24 i0 _ 8 80 Try.underlying22 hi hz0 hz1 hz2 rfl (by decide) _ OW0.out A n c (flatO l) HSRC.out (by omega) (by omega) HLE
        obtain ⟨A4, c4', rfl⟩ := own_form owna
        refine wp_append_run w5 (.tmp 37) (.tmp 38) 22 22 rfl rfl rfl runa ?_
        refine hK _ _ gapp ?_
        clear hK K runa
        have OWC := Lib.hid owna
        clear owna
        simp only [Act.put, List.setIfInBounds_toArray, List.set_cons_zero, List.set_cons_succ]
        replace BI := Lib.hid (BI.out.grew (g5.trans gapp))
        have GALL : Grew w w6 := (((((GV.out.trans g1).trans ga0).trans g3).trans ga1).trans g5).trans gapp
        clear g1 ga0 g3 gapp g5 ga1 HSRC OW0 HLE
        refine wpAnyF_phaseW Grew.refl (m := 12) (by kernel_rfl) (by kernel_rfl) ?_
        intro w7 g7
        refine wpAny_step (i := 12) (by kernel_rfl) (fuel' := 4) (by kernel_rfl) (by simp only [pickOps, List.getElem?_toArray, List.getElem?_cons_zero, List.getElem?_cons_succ]; rfl) (by rfl) ?_
        intro K hK
        have hsz := (GALL.trans g7).le
        obtain ⟨v8, w8, run8, own8, gr8, _⟩ := run_append_sl (P := Try.prog) w7 w.heap.size 22 22 24 i0 _ 8 80 Try.underlying22 hi hz0 hz1 hz2 rfl (by decide) _ n _ (own_grew OWC.out g7) _ 1 1 (flatO [o]) (BI.out.2.grew g7) (flat_one oe_ok _) (by unfold maxLen; omega) (by omega) hsz
        obtain ⟨A8, c8, rfl⟩ := own_form own8
        refine wp_append_run w7 (.tmp 39) (.tmp 41) 22 22 rfl rfl rfl run8 ?_
        refine hK _ _ ?_
        clear hK K run8
        simp only [Act.put, List.setIfInBounds_toArray, List.set_cons_zero, List.set_cons_succ]
        have GE8 : Grew w w8 := (GALL.trans g7).grown gr8 (fun j hj => (own_grew OWC.out g7).lt j hj |>.1)
        have HO8 : Hid (Ords w8 A8 (n + 1) c8 (l ++ [o])) := ⟨Recs.own (base := w.heap.size) (e := 24) (by rw [List.length_append, HL.out]; rfl) (by rw [List.flatMap_append]; exact own8), WF.out⟩
        clear own8 gr8
        refine wpAny_step (i := 13) (by kernel_rfl) (fuel' := 3) (by kernel_rfl) (by simp only [pickOps, List.getElem?_toArray, List.getElem?_cons_zero, List.getElem?_cons_succ]; rfl) (by rfl) ?_
        intro K hK
        refine wp_call 15 _ (by go_simp; first | done | rfl) ?_
        refine (rvalid_val HO8.out HBAD.out).mono ?_
        rintro e w9 ⟨rfl, g9⟩
        refine ⟨_, rfl, hK _ _ ?_⟩
        clear hK K
        simp only [Act.put, List.setIfInBounds_toArray, List.set_cons_zero, List.set_cons_succ]
        refine wpAny_rest (fun _ _ _ _ _ h => h) [14, 15, 16] (by kernel_rfl) (by kernel_rfl) (by kernel_rfl) (by simp only [pickOps, List.getElem?_toArray, List.getElem?_cons_zero, List.getElem?_cons_succ]; rfl) ?_
        repeat (first
          | (refine TakeAll.pure (v := ?_) (by rfl) ?_ ?_; rotate_left; (intro w' g'; go_simp; first | done | with_reducible rfl); (simp only [Act.put, List.setIfInBounds_toArray, List.set_cons_zero, List.set_cons_succ]))
          | (refine TakeAll.skip (by rfl) ?_; (simp only [Act.put, List.setIfInBounds_toArray, List.set_cons_zero, List.set_cons_succ])))
        refine TakeAll.nil ?_
        have gE := GE8.trans g9
        go_wp2_with fail
        go_ret
        exact ⟨rfl, gE⟩
    · intro w1 g1 K hK
      go_simp
      have ga1 := (Grew.refl w1).alloc (.cells #[.int .i64 o.n, .string o.p, .string o.c, .int .i64 o.r, .int .i64 o.k, .int .i64 o.f, .int .i64 o.m, .bool o.fam] 24)
      refine hK _ _ ga1 ?_
      clear hK K
      have BI := Lib.hid (Recs.built (w := w1) oe_ok (t := 24) (l := [o]) (n := 1) #[.int .i64 o.n, .string o.p, .string o.c, .int .i64 o.r, .int .i64 o.k, .int .i64 o.f, .int .i64 o.m, .bool o.fam] rfl rfl (by decide))
      obtain ⟨w2, hwo⟩ : ∃ y, y = w1.alloc (.cells #[.int .i64 o.n, .string o.p, .string o.c, .int .i64 o.r, .int .i64 o.k, .int .i64 o.f, .int .i64 o.m, .bool o.fam] 24) := ⟨_, rfl⟩
      rw [← hwo] at BI ga1 ⊢
      obtain ⟨z1, hz1'⟩ : ∃ z, z = w1.heap.size := ⟨_, rfl⟩
      rw [← hz1'] at BI ⊢
      clear hwo hz1'
      try simp only [Act.put, List.setIfInBounds_toArray, List.set_cons_zero, List.set_cons_succ]
      refine wpAnyF_step (i := 7) (by kernel_rfl) (fuel' := 6) (by kernel_rfl) (by simp only [pickOps, List.getElem?_toArray, List.getElem?_cons_zero, List.getElem?_cons_succ]; rfl) (by rfl) ?_
      intro w3 g3 K hK
      have HLE := (((GV.out.trans g1).trans ga1).trans g3).le
      go_simp
      have ga0 := (Grew.refl w3).alloc (.cells #[] 24)
      refine hK _ _ ga0 ?_
      clear hK K
      have OW0 := Lib.hid (World.ownsRow_made (base := w.heap.size) (e := 24) (size := 8) w3 #[] 0 HLE (by decide) rfl)
      obtain ⟨w4, hwo⟩ : ∃ y, y = w3.alloc (.cells #[] 24) := ⟨_, rfl⟩
      rw [← hwo] at OW0 ga0 ⊢
      obtain ⟨z0, hz0'⟩ : ∃ z, z = w3.heap.size := ⟨_, rfl⟩
      rw [← hz0'] at OW0 ⊢
      clear hwo hz0'
      try simp only [Act.put, List.setIfInBounds_toArray, List.set_cons_zero, List.set_cons_succ]
      refine wpAnyF_step (i := 9) (by kernel_rfl) (fuel' := 5) (by kernel_rfl) (by simp only [pickOps, List.getElem?_toArray, List.getElem?_cons_zero, List.getElem?_cons_succ]; rfl) (by rfl) ?_
      intro w5 g5 K hK
      replace HLE := (((((GV.out.trans g1).trans ga1).trans g3).trans ga0).trans g5).le
      replace OW0 := Lib.hid (own_grew OW0.out g5)
      have HSRC := Lib.hid ((HHV.out.grew ((((g1.trans ga1).trans g3).trans ga0).trans g5)).1.2)
      obtain ⟨va, w6, runa, owna, gapp⟩ := run_append_empty (P := Try.prog) w5 w.heap.size 22 22 24 i0 _ 8 80 Try.underlying22 hi hz0 hz1 hz2 rfl (by decide) _ OW0.out A n c (flatO l) HSRC.out (by omega) (by omega) HLE
      obtain ⟨A4, c4', rfl⟩ := own_form owna
      refine wp_append_run w5 (.tmp 37) (.tmp 38) 22 22 rfl rfl rfl runa ?_
      refine hK _ _ gapp ?_
      clear hK K runa
      have OWC := Lib.hid owna
      clear owna
      simp only [Act.put, List.setIfInBounds_toArray, List.set_cons_zero, List.set_cons_succ]
      replace BI := Lib.hid (BI.out.grew (((g3.trans ga0).trans g5).trans gapp))
      have GALL : Grew w w6 := (((((GV.out.trans g1).trans ga1).trans g3).trans ga0).trans g5).trans gapp
      clear g1 ga0 g3 gapp g5 ga1 HSRC OW0 HLE
      refine wpAnyF_phaseW Grew.refl (m := 12) (by kernel_rfl) (by kernel_rfl) ?_
      intro w7 g7
      refine wpAny_step (i := 12) (by kernel_rfl) (fuel' := 4) (by kernel_rfl) (by simp only [pickOps, List.getElem?_toArray, List.getElem?_cons_zero, List.getElem?_cons_succ]; rfl) (by rfl) ?_
      intro K hK
      have hsz := (GALL.trans g7).le
      obtain ⟨v8, w8, run8, own8, gr8, _⟩ := run_append_sl (P := Try.prog) w7 w.heap.size 22 22 24 i0 _ 8 80 Try.underlying22 hi hz0 hz1 hz2 rfl (by decide) _ n _ (own_grew OWC.out g7) _ 1 1 (flatO [o]) (BI.out.2.grew g7) (flat_one oe_ok _) (by unfold maxLen; omega) (by omega) hsz
      obtain ⟨A8, c8, rfl⟩ := own_form own8
      refine wp_append_run w7 (.tmp 39) (.tmp 41) 22 22 rfl rfl rfl run8 ?_
      refine hK _ _ ?_
      clear hK K run8
      simp only [Act.put, List.setIfInBounds_toArray, List.set_cons_zero, List.set_cons_succ]
      have GE8 : Grew w w8 := (GALL.trans g7).grown gr8 (fun j hj => (own_grew OWC.out g7).lt j hj |>.1)
      have HO8 : Hid (Ords w8 A8 (n + 1) c8 (l ++ [o])) := ⟨Recs.own (base := w.heap.size) (e := 24) (by rw [List.length_append, HL.out]; rfl) (by rw [List.flatMap_append]; exact own8), WF.out⟩
      clear own8 gr8
      refine wpAny_step (i := 13) (by kernel_rfl) (fuel' := 3) (by kernel_rfl) (by simp only [pickOps, List.getElem?_toArray, List.getElem?_cons_zero, List.getElem?_cons_succ]; rfl) (by rfl) ?_
      intro K hK
      refine wp_call 15 _ (by go_simp; first | done | rfl) ?_
      refine (rvalid_val HO8.out HBAD.out).mono ?_
      rintro e w9 ⟨rfl, g9⟩
      refine ⟨_, rfl, hK _ _ ?_⟩
      clear hK K
      simp only [Act.put, List.setIfInBounds_toArray, List.set_cons_zero, List.set_cons_succ]
      refine wpAny_rest (fun _ _ _ _ _ h => h) [14, 15, 16] (by kernel_rfl) (by kernel_rfl) (by kernel_rfl) (by simp only [pickOps, List.getElem?_toArray, List.getElem?_cons_zero, List.getElem?_cons_succ]; rfl) ?_
      repeat (first
        | (refine TakeAll.pure (v := ?_) (by rfl) ?_ ?_; rotate_left; (intro w' g'; go_simp; first | done | with_reducible rfl); (simp only [Act.put, List.setIfInBounds_toArray, List.set_cons_zero, List.set_cons_succ]))
        | (refine TakeAll.skip (by rfl) ?_; (simp only [Act.put, List.setIfInBounds_toArray, List.set_cons_zero, List.set_cons_succ])))
      refine TakeAll.nil ?_
      have gE := GE8.trans g9
      go_wp2_with fail
      go_ret
      exact ⟨rfl, gE⟩
theorem rcd_law (A : Option Addr) (n c : Nat) (l : List Ord) (o : Ord) (mo : Int) (w : World) (h : Ords w A n c l) (ho : Wf [o]) : Calls Try.prog 8 #[.slice A n c, ov o, .int .i64 mo] w fun e w' => e = .returned (.bool true) ∧ Grew w w' := by
  by_cases hs : n ≤ 403
  · exact rcd_main A n c l o mo w h ho hs
  · exact rcd_skip A n c l o mo w h ho h.1.le (decide_eq_false hs)
end Go.Proofs.Ytjpnodmcglcihaa
