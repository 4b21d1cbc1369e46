/-
  The law OrdersClocks, walked.
-/
import Derived.Test.YtjpnodmcglcihaaRValid
import Derived.Test.YtjpnodmcglcihaaClkP
namespace Go.Proofs.Ytjpnodmcglcihaa
open Go.RowKit Go.Proofs WageMem WageOrd WageRec WageMap WageReg

set_option maxRecDepth 100000 in
set_option maxHeartbeats 8000000 in
theorem clk_skip (A : Option Addr) (n c : Nat) (l : List Ord) (o : Ord) (p : ByteArray) (mo kn : Int) (w : World) (_h : Ords w A n c l) (_ho : Wf [o]) (hn : n ≤ 9223372036854775807) (hs : decide (n ≤ 403) = false) : Calls Try.prog 4 #[.slice A n c, .agg #[.int .i64 o.n, .string o.p, .string o.c, .int .i64 o.r, .int .i64 o.k, .int .i64 o.f, .int .i64 o.m, .bool o.fam], .string p, .int .i64 mo, .int .i64 kn] w fun e w' => e = .returned (.bool true) ∧ Grew w w' := by
  have HS := Lib.hid hs
  obtain ⟨w0, hw0⟩ : ∃ y, y = w.alloc (.cells #[.int .i64 o.n, .string o.p, .string o.c, .int .i64 o.r, .int .i64 o.k, .int .i64 o.f, .int .i64 o.m, .bool o.fam] 24) := ⟨_, rfl⟩
  have g0 : Grew w w0 := by rw [hw0]; exact (Grew.refl w).alloc _
  clear hs
  go_enter Try.func4, Try.ntmps4
  go_wp2_with fail
  rw [← hw0]
  refine (head_true _).mono ?_
  rintro e v1 ⟨rfl, g1⟩
  go_wp2_with fail
  refine (short_any A n c _ hn HS.out).mono ?_
  rintro e v2 ⟨rfl, g2⟩
  clear hw0
  go_wp2_with fail
  go_ret
  exact ⟨rfl, (g0.trans g1).trans g2⟩
set_option maxRecDepth 100000 in
set_option maxHeartbeats 8000000 in
theorem clk_skip2 (A : Option Addr) (n c : Nat) (l : List Ord) (o : Ord) (p : ByteArray) (mo kn : Int) (w : World) (h : Ords w A n c l) (_ho : Wf [o]) (hn : n ≤ 403) (hv : validB l = false) : Calls Try.prog 4 #[.slice A n c, .agg #[.int .i64 o.n, .string o.p, .string o.c, .int .i64 o.r, .int .i64 o.k, .int .i64 o.f, .int .i64 o.m, .bool o.fam], .string p, .int .i64 mo, .int .i64 kn] w fun e w' => e = .returned (.bool true) ∧ Grew w w' := by
  have HS := Lib.hid (decide_eq_true hn)
  have HV := Lib.hid hv
  have HH := Lib.hid h
  obtain ⟨w0, hw0⟩ : ∃ y, y = w.alloc (.cells #[.int .i64 o.n, .string o.p, .string o.c, .int .i64 o.r, .int .i64 o.k, .int .i64 o.f, .int .i64 o.m, .bool o.fam] 24) := ⟨_, rfl⟩
  have g0 : Grew w w0 := by rw [hw0]; exact (Grew.refl w).alloc _
  clear hv h
  go_enter Try.func4, Try.ntmps4
  go_wp2_with fail
  rw [← hw0]
  refine (head_true _).mono ?_
  rintro e v1 ⟨rfl, g1⟩
  go_wp2_with fail
  refine (short_any A n c _ (by omega) HS.out).mono ?_
  rintro e v2 ⟨rfl, g2⟩
  clear hw0
  go_wp2_with fail
  refine (rvalid_val (HH.out.grew ((g0.trans g1).trans g2)) HV.out).mono ?_
  rintro e v3 ⟨rfl, g3⟩
  go_wp2_with fail
  go_ret
  exact ⟨rfl, ((g0.trans g1).trans g2).trans g3⟩

set_option maxRecDepth 100000 in
set_option maxHeartbeats 8000000 in
theorem clk_main (A : Option Addr) (n c : Nat) (l : List Ord) (o : Ord) (p : ByteArray) (mo kn : Int) (w : World) (h : Ords w A n c l) (ho : Wf [o]) (hn : n ≤ 403) (hv : validB l = true) : Calls Try.prog 4 #[.slice A n c, .agg #[.int .i64 o.n, .string o.p, .string o.c, .int .i64 o.r, .int .i64 o.k, .int .i64 o.f, .int .i64 o.m, .bool o.fam], .string p, .int .i64 mo, .int .i64 kn] w fun e w' => e = .returned (.bool true) ∧ Grew w w' := by
  have HS := Lib.hid (decide_eq_true hn)
  have HV := Lib.hid hv
  have HH := Lib.hid h
  have HL := Lib.hid h.1.1
  have HO := Lib.hid ho
  have hcap := h.1.cap
  have hcm : c ≤ 9223372036854775807 := h.1.2.2.1
  have bo := (ho o (by simp)).2.2.2
  obtain ⟨w0, hw0⟩ : ∃ y, y = w.alloc (.cells #[.int .i64 o.n, .string o.p, .string o.c, .int .i64 o.r, .int .i64 o.k, .int .i64 o.f, .int .i64 o.m, .bool o.fam] 24) := ⟨_, rfl⟩
  have g0 : Grew w w0 := by rw [hw0]; exact (Grew.refl w).alloc _
  have HR0 : Hid (w0.rangeAt w.heap.size 0 (oe o)) := by rw [hw0]; exact range_new w (oe o) 24
  obtain ⟨r, hr⟩ : ∃ r, openL l p mo kn = r := ⟨_, rfl⟩
  have HRR := Lib.hid hr
  obtain ⟨⟨more, z⟩, hrec⟩ : ∃ q, recL l o = q := ⟨_, rfl⟩
  have HREC := Lib.hid hrec
  clear hv h ho hr hrec
  go_enter Try.func4, Try.ntmps4
  go_wp2_with fail
  rw [← hw0]
  refine (head_true _).mono ?_
  rintro e v1 ⟨rfl, g1⟩
  go_wp2_with fail
  refine (short_any A n c _ (by omega) HS.out).mono ?_
  rintro e v2 ⟨rfl, g2⟩
  clear hw0
  go_wp2_with fail
  refine (rvalid_val (HH.out.grew ((g0.trans g1).trans g2)) HV.out).mono ?_
  rintro e v3 ⟨rfl, g3⟩
  have gg := ((g0.trans g1).trans g2).trans g3
  replace HH := Lib.hid (HH.out.grew gg)
  have HR3 := Lib.hid (range_grew HR0.out ((g1.trans g2).trans g3))
  have GG := Lib.hid gg
  clear g0 g1 g2 g3 gg HR0
  go_wp2_with fail
  go_loop [12] (fun i => ∃ k : Nat, k ≤ n ∧ i = .int .i64 k) (fun i => n - (intOf i).toNat)
  case atStart => exact ⟨0, Nat.zero_le _, rfl⟩
  case round =>
    obtain ⟨k, hk, rfl⟩ := hrel
    have step : (∃ b q x, A = some ⟨b, q, none⟩ ∧ k < n ∧ x ≤ kn ∧ v3.cell? ⟨b, q + k * 8 + 4, none⟩ = some (.int .i64 x)) ∨ (k = n ∧ Hid (∀ x, l[k]? = some x → kn < x.k)) ∨ (∃ b q x, A = some ⟨b, q, none⟩ ∧ k < n ∧ kn < x ∧ v3.cell? ⟨b, q + k * 8 + 4, none⟩ = some (.int .i64 x) ∧ Hid (∀ x, l[k]? = some x → kn < x.k)) := by
      by_cases hlt : k < n
      · obtain ⟨b, q, x, e, hx, hrx⟩ := HH.out.1.at_ oe_ok hlt
        by_cases hxk : x.k ≤ kn
        · exact .inl ⟨b, q, x.k, e, hlt, hxk, hrx 4 _ rfl⟩
        · exact .inr (.inr ⟨b, q, x.k, e, hlt, by omega, hrx 4 _ rfl, fun y hy => by rw [hx] at hy; injection hy with hy; subst hy; omega⟩)
      · refine .inr (.inl ⟨by omega, fun x hx => ?_⟩)
        have := (List.getElem?_eq_some_iff.1 hx).1
        rw [HL.out] at this
        omega
    rcases step with ⟨b, q, x, rfl, hlt, hxk, c4⟩ | ⟨hkn, HST⟩ | ⟨b, q, x, rfl, hlt, hxk, c4, HST⟩
    · have i0 : (0 : Int) ≤ (k : Int) := by omega
      have i1 : (k : Int) < (n : Int) := by omega
      have q1 : decide (x ≤ kn) = true := decide_eq_true hxk
      go_wp2_with fail
      go_round
      case rel => exact ⟨k + 1, by omega, by go_num⟩
      case measure => simp [intOf]; omega
    · have q0 : decide (k < n) = false := decide_eq_false (by omega)
      have q0' : decide ((k : Int) < (n : Int)) = false := decide_eq_false (by omega)
      have hk' : ¬ k < n := by omega
      clear hkn
      have HP := Lib.hid ((open_part (p := p) (mo := mo) HV.out (by rw [HL.out]; exact hk) HST.out).trans HRR.out)
      have r1 : ∀ y, (Instr.slice 22 (.slice A n c) none (some (.int .i64 (k : Int))) none).run Try.prog y = .ok (.slice A k c) y := fun y => run_slice_head y 22 8 elem22 (size22 y) A n c k .i64 (by omega)
      go_wp2_with fail
      refine (open_val HH.out (by omega) HRR.out).mono ?_
      rintro e v4 ⟨A4, n4, cc4, rfl, h4, g4⟩
      have H4 := Lib.hid h4
      have H5 : Hid (Ords v4 A k c (l.take k)) := ⟨(HH.out.1.grew g4).head oe_ok hk (by omega) (Nat.le_refl _), fun y hy => HH.out.2 y (List.mem_of_mem_take hy)⟩
      clear h4
      go_wp2_with fail
      refine (open_val H5.out (by omega) HP.out).mono ?_
      rintro e v5 ⟨A5, n5, cc5, rfl, h5, g5⟩
      have H6 := Lib.hid h5
      replace H4 := Lib.hid (H4.out.grew g5)
      clear h5 r1
      go_wp2_with fail
      refine (same_val H4.out H6.out (decide_eq_true rfl)).mono ?_
      rintro e v6 ⟨rfl, g6⟩
      replace H4 := Lib.hid (H4.out.grew g6)
      have G36 := Lib.hid ((g4.trans g5).trans g6)
      obtain ⟨c0, c1, c2, c3, c4, c5, c6, c7⟩ := cells24n (range_grew HR3.out G36.out)
      clear g4 g5 g6
      go_wp2_with fail
      refine (record_val (o := o) (HH.out.grew G36.out) (by omega) HO.out HREC.out).mono ?_
      rintro e v7 ⟨A7, n7, cc7, rfl, hl7, own7, g7⟩
      have GE := Lib.hid ((GG.out.trans G36.out).trans g7)
      have k4 := g7.cell c4
      replace H4 := Lib.hid (H4.out.grew g7)
      have HL7 := Lib.hid hl7
      have OW7 := Lib.hid own7
      clear c0 c1 c2 c3 c4 c5 c6 c7 hl7 own7
      by_cases hz : z = 0
      · have qz : (z != 0) = false := by rw [bne_eq_false_iff_eq]; exact hz
        obtain ⟨hmore, _, _, hv7, _, _⟩ := rec_ok_inv HREC.out hz
        have hn7 : n7 ≤ 410 := by have := HL7.out; rw [hmore, List.length_append, HL.out] at this; simp at this; omega
        have H7 : Hid (Ords v7 A7 n7 cc7 more) := ⟨Recs.own HL7.out OW7.out, by rw [hmore]; exact wf_app HH.out.2 HO.out⟩
        by_cases hkk : o.k ≤ kn
        · have qk : decide (o.k ≤ kn) = true := decide_eq_true hkk
          clear hz hmore hv7
          go_wp2_with fail
          go_ret
          exact ⟨rfl, GE.out⟩
        · have qk : decide (o.k ≤ kn) = false := decide_eq_false hkk
          have HM : Hid (openL more p mo kn = r) := by unfold Hid; rw [hmore, open_more HV.out hv7 (by omega)]; exact HRR.out
          clear hz hmore hv7
          go_wp2_with fail
          refine (open_val H7.out hn7 HM.out).mono ?_
          rintro e v8 ⟨A8, n8, cc8, rfl, h8, g8⟩
          have H8 := Lib.hid h8
          replace H4 := Lib.hid (H4.out.grew g8)
          clear h8
          go_wp2_with fail
          refine (same_val H4.out H8.out (decide_eq_true rfl)).mono ?_
          rintro e v9 ⟨rfl, g9⟩
          have gE := (GE.out.trans g8).trans g9
          go_wp2_with fail
          go_ret
          exact ⟨rfl, gE⟩
      · have qz : (z != 0) = true := by rw [bne_iff_ne]; exact hz
        clear hz
        go_wp2_with fail
        go_ret
        exact ⟨rfl, GE.out⟩
    · have i0 : (0 : Int) ≤ (k : Int) := by omega
      have i1 : (k : Int) < (n : Int) := by omega
      have q1 : decide (x ≤ kn) = false := decide_eq_false (by omega)
      have HP := Lib.hid ((open_part (p := p) (mo := mo) HV.out (by rw [HL.out]; exact hk) HST.out).trans HRR.out)
      have r1 : ∀ y, (Instr.slice 22 (.slice (some ⟨b, q, none⟩) n c) none (some (.int .i64 (k : Int))) none).run Try.prog y = .ok (.slice (some ⟨b, q, none⟩) k c) y := fun y => run_slice_head y 22 8 elem22 (size22 y) (some ⟨b, q, none⟩) n c k .i64 (by omega)
      go_wp2_with fail
      refine (open_val HH.out (by omega) HRR.out).mono ?_
      rintro e v4 ⟨A4, n4, cc4, rfl, h4, g4⟩
      have H4 := Lib.hid h4
      have H5 : Hid (Ords v4 (some ⟨b, q, none⟩) k c (l.take k)) := ⟨(HH.out.1.grew g4).head oe_ok hk (by omega) (Nat.le_refl _), fun y hy => HH.out.2 y (List.mem_of_mem_take hy)⟩
      clear h4
      go_wp2_with fail
      refine (open_val H5.out (by omega) HP.out).mono ?_
      rintro e v5 ⟨A5, n5, cc5, rfl, h5, g5⟩
      have H6 := Lib.hid h5
      replace H4 := Lib.hid (H4.out.grew g5)
      clear h5 r1
      go_wp2_with fail
      refine (same_val H4.out H6.out (decide_eq_true rfl)).mono ?_
      rintro e v6 ⟨rfl, g6⟩
      replace H4 := Lib.hid (H4.out.grew g6)
      have G36 := Lib.hid ((g4.trans g5).trans g6)
      obtain ⟨c0, c1, c2, c3, c4, c5, c6, c7⟩ := cells24n (range_grew HR3.out G36.out)
      clear g4 g5 g6
      go_wp2_with fail
      refine (record_val (o := o) (HH.out.grew G36.out) (by omega) HO.out HREC.out).mono ?_
      rintro e v7 ⟨A7, n7, cc7, rfl, hl7, own7, g7⟩
      have GE := Lib.hid ((GG.out.trans G36.out).trans g7)
      have k4 := g7.cell c4
      replace H4 := Lib.hid (H4.out.grew g7)
      have HL7 := Lib.hid hl7
      have OW7 := Lib.hid own7
      clear c0 c1 c2 c3 c4 c5 c6 c7 hl7 own7
      by_cases hz : z = 0
      · have qz : (z != 0) = false := by rw [bne_eq_false_iff_eq]; exact hz
        obtain ⟨hmore, _, _, hv7, _, _⟩ := rec_ok_inv HREC.out hz
        have hn7 : n7 ≤ 410 := by have := HL7.out; rw [hmore, List.length_append, HL.out] at this; simp at this; omega
        have H7 : Hid (Ords v7 A7 n7 cc7 more) := ⟨Recs.own HL7.out OW7.out, by rw [hmore]; exact wf_app HH.out.2 HO.out⟩
        by_cases hkk : o.k ≤ kn
        · have qk : decide (o.k ≤ kn) = true := decide_eq_true hkk
          clear hz hmore hv7
          go_wp2_with fail
          go_ret
          exact ⟨rfl, GE.out⟩
        · have qk : decide (o.k ≤ kn) = false := decide_eq_false hkk
          have HM : Hid (openL more p mo kn = r) := by unfold Hid; rw [hmore, open_more HV.out hv7 (by omega)]; exact HRR.out
          clear hz hmore hv7
          go_wp2_with fail
          refine (open_val H7.out hn7 HM.out).mono ?_
          rintro e v8 ⟨A8, n8, cc8, rfl, h8, g8⟩
          have H8 := Lib.hid h8
          replace H4 := Lib.hid (H4.out.grew g8)
          clear h8
          go_wp2_with fail
          refine (same_val H4.out H8.out (decide_eq_true rfl)).mono ?_
          rintro e v9 ⟨rfl, g9⟩
          have gE := (GE.out.trans g8).trans g9
          go_wp2_with fail
          go_ret
          exact ⟨rfl, gE⟩
      · have qz : (z != 0) = true := by rw [bne_iff_ne]; exact hz
        clear hz
        go_wp2_with fail
        go_ret
        exact ⟨rfl, GE.out⟩
theorem clk_law (A : Option Addr) (n c : Nat) (l : List Ord) (o : Ord) (p : ByteArray) (mo kn : Int) (w : World) (h : Ords w A n c l) (ho : Wf [o]) : Calls Try.prog 4 #[.slice A n c, ov o, .string p, .int .i64 mo, .int .i64 kn] w fun e w' => e = .returned (.bool true) ∧ Grew w w' := by
  by_cases hs : n ≤ 403
  · cases hv : validB l with
    | true => exact clk_main A n c l o p mo kn w h ho hs hv
    | false => exact clk_skip2 A n c l o p mo kn w h ho hs hv
  · exact clk_skip A n c l o p mo kn w h ho h.1.le (decide_eq_false hs)
end Go.Proofs.Ytjpnodmcglcihaa
