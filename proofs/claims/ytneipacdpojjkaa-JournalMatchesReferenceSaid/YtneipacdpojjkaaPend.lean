/-
  The law JournalPending, walked.
-/
import Derived.Test.YtneipacdpojjkaaJsmall
namespace Go.Proofs.Ytneipacdpojjkaa
open Go.RowKit Go.Proofs WageMem WageDisk

theorem sync_bytes {d : Ds} (hv : validB d = true) : bytesD (syncD d) = bytesD d ∧ validB (syncD d) = true ∧ (syncD d).st.length = d.st.length := by
  rw [sync_valid hv]
  exact ⟨rfl, valid_synced hv, bytesD_len hv⟩
theorem sync_recs {d : Ds} (hv : validB d = true) : jRecs (syncD d) = jRecs d ∧ jEnd (syncD d) = jEnd d := by
  obtain ⟨h1, h2, _⟩ := sync_bytes hv
  unfold jRecs jEnd
  rw [h2, hv, h1]
  exact ⟨rfl, rfl⟩
theorem sync_app {d : Ds} (hv : validB d = true) (rec : List UInt8) : appD (syncD d) rec = appD d rec ∧ appE (syncD d) rec = appE d rec := by
  obtain ⟨h1, h2, h3⟩ := sync_bytes hv
  obtain ⟨h4, h5⟩ := sync_recs hv
  have hf : fitsB (syncD d) rec = fitsB d rec := by unfold fitsB; rw [h5, h3]
  have hb : appB (syncD d) rec = appB d rec := by unfold appB tailB; rw [h1, h4, h5, h3]
  unfold appD appE
  rw [h2, hv, hf, hb]
  exact ⟨rfl, rfl⟩

set_option maxRecDepth 100000 in
set_option maxHeartbeats 16000000 in
theorem pending_main (A : Option Addr) (n c : Nat) (A' : Option Addr) (n' c' : Nat) (d : Ds) (A3 : Option Addr) (n3 c3 : Nat) (rec : List UInt8) (w : World) (h : Disk w (.agg #[.slice A n c, .slice A' n' c']) d) (hD : Bytes w A3 n3 c3 rec) (hmo : Modest d)
    (hsm : jsmallB d = true) (hv : validB d = true) (h3 : n3 ≤ 4106) :
    Calls Try.prog 14 #[.agg #[.slice A n c, .slice A' n' c'], .slice A3 n3 c3] w fun e w' => e = .returned (.bool true) ∧ Grew w w' := by
  have g0 : Grew w (w.alloc (.cells #[.slice A n c, .slice A' n' c'] 25)) := (Grew.refl w).alloc _
  have HH := Lib.hid h
  have HMO := Lib.hid hmo
  have t1 : decide (4106 < (n3 : Int)) = false := decide_eq_false (by omega)
  have HS := Lib.hid hsm
  have HV := Lib.hid hv
  have HD := Lib.hid hD
  obtain ⟨sr1, sr2⟩ := sync_recs hv
  obtain ⟨sa1, sa2⟩ := sync_app hv rec
  obtain ⟨ds, hds⟩ : ∃ ds, syncD d = ds := ⟨_, rfl⟩
  obtain ⟨ls, hls⟩ : ∃ ls, jRecs d = ls := ⟨_, rfl⟩
  obtain ⟨en, hen⟩ : ∃ en : Int, (jEnd d : Int) = en := ⟨_, rfl⟩
  obtain ⟨da, hda⟩ : ∃ da, appD d rec = da := ⟨_, rfl⟩
  obtain ⟨ea, hea⟩ : ∃ ea, appE d rec = ea := ⟨_, rfl⟩
  rw [hds, hls] at sr1
  rw [hds] at sr2 sa1 sa2
  rw [hda] at sa1
  rw [hea] at sa2
  have sr3 : (jEnd ds : Int) = en := by rw [sr2]; exact hen
  have H1 := Lib.hid hds
  have H2 := Lib.hid hls
  have H3 := Lib.hid hen
  have H4 := Lib.hid hda
  have H5 := Lib.hid hea
  have H6 := Lib.hid sr1
  have H7 := Lib.hid sr3
  have H8 := Lib.hid sa1
  have H9 := Lib.hid sa2
  have q1 : (en == en) = true := by simp
  have q2 : (ea == ea) = true := by simp
  clear hsm hv h hD hmo hds hls hen hda hea sr1 sr2 sr3 sa1 sa2
  go_enter Try.func14, Try.ntmps14
  go_wp2_with fail
  refine (jhead_true _).mono ?_
  rintro e w1 ⟨rfl, g1⟩
  have d0 : w1.cell? ⟨w.heap.size, 0, none⟩ = some (.slice A n c) := g1.cell (by simp)
  have d1 : w1.cell? ⟨w.heap.size, 1, none⟩ = some (.slice A' n' c') := g1.cell (by simp)
  have gg := g0.trans g1
  clear g0 g1
  go_wp2_with fail
  refine (jsmall_any _ d _ (HH.out.grew gg) HMO.out).mono ?_
  rw [HS.out]
  rintro e w2 ⟨rfl, g2⟩
  replace d0 := g2.cell d0
  replace d1 := g2.cell d1
  replace gg := gg.trans g2
  clear g2
  go_wp2_with fail
  refine (rvalid_any _ d _ (HH.out.grew gg)).mono ?_
  rw [HV.out]
  rintro e w3 ⟨rfl, g3⟩
  replace d0 := g3.cell d0
  replace d1 := g3.cell d1
  replace gg := gg.trans g3
  clear g3
  go_wp2_with fail
  refine (sync_val (HH.out.grew gg) H1.out).mono ?_
  rintro e w4 ⟨B4, m4, f4, C4, p4, q4, rfl, fr4, g4⟩
  replace d0 := g4.cell d0
  replace d1 := g4.cell d1
  have sz40 := World.block_lt_of_cell? _ _ d0
  go_wp2_with fail
  obtain ⟨x4, hx4⟩ : ∃ x, x = w4.alloc (.cells #[.slice B4 m4 f4, .slice C4 p4 q4] 25) := ⟨_, rfl⟩
  have ga4 : Grew w4 x4 := by rw [hx4]; exact (Grew.refl _).alloc _
  have gs4 : Grew w3 x4 := g4.trans ga4
  have b40 : x4.cell? ⟨w4.heap.size, 0, none⟩ = some (.slice B4 m4 f4) := by rw [hx4]; simp
  have b41 : x4.cell? ⟨w4.heap.size, 1, none⟩ = some (.slice C4 p4 q4) := by rw [hx4]; simp
  have k4 : Hid (Disk x4 (.agg #[.slice B4 m4 f4, .slice C4 p4 q4]) ds) := fr4.now.grew ga4
  rw [← hx4]
  replace d0 := ga4.cell d0
  replace d1 := ga4.cell d1
  clear sz40
  clear hx4 fr4 g4 ga4
  replace gg := gg.trans gs4
  refine (recs_int (HH.out.grew gg) H2.out H3.out).mono ?_
  rintro e w5 ⟨L1, l1, t5, rfl, hL1, g5⟩
  replace d0 := g5.cell d0
  replace d1 := g5.cell d1
  replace b40 := g5.cell b40
  replace b41 := g5.cell b41
  replace k4 := Lib.hid (k4.out.grew g5)
  replace gg := gg.trans g5
  have HL1 := Lib.hid hL1
  clear hL1 g5
  go_wp2_with fail
  refine (recs_int k4.out H6.out H7.out).mono ?_
  rintro e w6 ⟨L2, l2, t6, rfl, hL2, g6⟩
  replace d0 := g6.cell d0
  replace d1 := g6.cell d1
  replace b40 := g6.cell b40
  replace b41 := g6.cell b41
  replace k4 := Lib.hid (k4.out.grew g6)
  replace HL1 := Lib.hid (HL1.out.grew g6)
  replace gg := gg.trans g6
  have HL2 := Lib.hid hL2
  clear hL2 g6
  go_wp2_with fail
  refine (append_val (HH.out.grew gg) (HD.out.grew gg) H4.out H5.out).mono ?_
  rintro e w7 ⟨B7, m7, f7, C7, p7, q7, rfl, fr7, g7⟩
  replace d0 := g7.cell d0
  replace d1 := g7.cell d1
  replace b40 := g7.cell b40
  replace b41 := g7.cell b41
  have sz70 := World.block_lt_of_cell? _ _ d0
  have sz71 := World.block_lt_of_cell? _ _ b40
  go_wp2_with fail
  obtain ⟨x7, hx7⟩ : ∃ x, x = w7.alloc (.cells #[.slice B7 m7 f7, .slice C7 p7 q7] 25) := ⟨_, rfl⟩
  have ga7 : Grew w7 x7 := by rw [hx7]; exact (Grew.refl _).alloc _
  have gs7 : Grew w6 x7 := g7.trans ga7
  have b70 : x7.cell? ⟨w7.heap.size, 0, none⟩ = some (.slice B7 m7 f7) := by rw [hx7]; simp
  have b71 : x7.cell? ⟨w7.heap.size, 1, none⟩ = some (.slice C7 p7 q7) := by rw [hx7]; simp
  have k7 : Hid (Disk x7 (.agg #[.slice B7 m7 f7, .slice C7 p7 q7]) da) := fr7.now.grew ga7
  rw [← hx7]
  replace d0 := ga7.cell d0
  replace d1 := ga7.cell d1
  replace b40 := ga7.cell b40
  replace b41 := ga7.cell b41
  replace k4 := Lib.hid (k4.out.grew gs7)
  replace HL1 := Lib.hid (HL1.out.grew gs7)
  replace HL2 := Lib.hid (HL2.out.grew gs7)
  clear sz70
  clear sz71
  clear hx7 fr7 g7 ga7
  replace gg := gg.trans gs7
  refine (append_val k4.out (HD.out.grew gg) H8.out H9.out).mono ?_
  rintro e w8 ⟨B8, m8, f8, C8, p8, q8, rfl, fr8, g8⟩
  replace b70 := g8.cell b70
  replace b71 := g8.cell b71
  have sz80 := World.block_lt_of_cell? _ _ b70
  go_wp2_with fail
  obtain ⟨x8, hx8⟩ : ∃ x, x = w8.alloc (.cells #[.slice B8 m8 f8, .slice C8 p8 q8] 25) := ⟨_, rfl⟩
  have ga8 : Grew w8 x8 := by rw [hx8]; exact (Grew.refl _).alloc _
  have gs8 : Grew x7 x8 := g8.trans ga8
  have b80 : x8.cell? ⟨w8.heap.size, 0, none⟩ = some (.slice B8 m8 f8) := by rw [hx8]; simp
  have b81 : x8.cell? ⟨w8.heap.size, 1, none⟩ = some (.slice C8 p8 q8) := by rw [hx8]; simp
  have k8 : Hid (Disk x8 (.agg #[.slice B8 m8 f8, .slice C8 p8 q8]) da) := fr8.now.grew ga8
  rw [← hx8]
  replace b70 := ga8.cell b70
  replace b71 := ga8.cell b71
  replace k7 := Lib.hid (k7.out.grew gs8)
  replace HL1 := Lib.hid (HL1.out.grew gs8)
  replace HL2 := Lib.hid (HL2.out.grew gs8)
  clear sz80
  clear hx8 fr8 g8 ga8
  replace gg := gg.trans gs8
  refine (sameAll_any L1 L2 l1 l2 t5 t6 ls ls _ HL1.out HL2.out).mono ?_
  rw [decide_eq_true (rfl : ls = ls)]
  rintro e w9 ⟨rfl, g9⟩
  replace b70 := g9.cell b70
  replace b71 := g9.cell b71
  replace b80 := g9.cell b80
  replace b81 := g9.cell b81
  go_wp2_with fail
  refine (jsameD (k7.out.grew g9) (k8.out.grew g9)).mono ?_
  rintro e w10 ⟨rfl, g10⟩
  clear b70 b71 b80 b81 b40 b41 d0 d1
  go_wp2_with fail
  go_ret
  exact ⟨rfl, (gg.trans g9).trans g10⟩

set_option maxRecDepth 100000 in
set_option maxHeartbeats 16000000 in
theorem pending_skip (A : Option Addr) (n c : Nat) (A' : Option Addr) (n' c' : Nat) (d : Ds) (A3 : Option Addr) (n3 c3 : Nat) (w : World) (h : Disk w (.agg #[.slice A n c, .slice A' n' c']) d) (hmo : Modest d)
    (hs : jsmallB d = false ∨ validB d = false ∨ 4106 < n3) :
    Calls Try.prog 14 #[.agg #[.slice A n c, .slice A' n' c'], .slice A3 n3 c3] w fun e w' => e = .returned (.bool true) ∧ Grew w w' := by
  have g0 : Grew w (w.alloc (.cells #[.slice A n c, .slice A' n' c'] 25)) := (Grew.refl w).alloc _
  have HH := Lib.hid h
  have HMO := Lib.hid hmo
  clear h hmo
  cases hsm : jsmallB d with
  | false =>
    have HS := Lib.hid hsm
    clear hsm hs
    go_enter Try.func14, Try.ntmps14
    go_wp2_with fail
    refine (jhead_true _).mono ?_
    rintro e w1 ⟨rfl, g1⟩
    have d0 : w1.cell? ⟨w.heap.size, 0, none⟩ = some (.slice A n c) := g1.cell (by simp)
    have d1 : w1.cell? ⟨w.heap.size, 1, none⟩ = some (.slice A' n' c') := g1.cell (by simp)
    have gg := g0.trans g1
    clear g0 g1
    go_wp2_with fail
    refine (jsmall_any _ d _ (HH.out.grew gg) HMO.out).mono ?_
    rw [HS.out]
    rintro e w2 ⟨rfl, g2⟩
    clear d0 d1
    go_wp2_with fail
    go_ret
    exact ⟨rfl, gg.trans g2⟩
  | true =>
    have HS := Lib.hid hsm
    cases hv : validB d with
    | false =>
      have HV := Lib.hid hv
      clear hsm hs hv
      go_enter Try.func14, Try.ntmps14
      go_wp2_with fail
      refine (jhead_true _).mono ?_
      rintro e w1 ⟨rfl, g1⟩
      have d0 : w1.cell? ⟨w.heap.size, 0, none⟩ = some (.slice A n c) := g1.cell (by simp)
      have d1 : w1.cell? ⟨w.heap.size, 1, none⟩ = some (.slice A' n' c') := g1.cell (by simp)
      have gg := g0.trans g1
      clear g0 g1
      go_wp2_with fail
      refine (jsmall_any _ d _ (HH.out.grew gg) HMO.out).mono ?_
      rw [HS.out]
      rintro e w2 ⟨rfl, g2⟩
      replace d0 := g2.cell d0
      replace d1 := g2.cell d1
      replace gg := gg.trans g2
      clear g2
      go_wp2_with fail
      refine (rvalid_any _ d _ (HH.out.grew gg)).mono ?_
      rw [HV.out]
      rintro e w3 ⟨rfl, g3⟩
      clear d0 d1
      go_wp2_with fail
      go_ret
      exact ⟨rfl, gg.trans g3⟩
    | true =>
      have HV := Lib.hid hv
      have t1 : decide (4106 < (n3 : Int)) = true := by
        rcases hs with hs | hs | hs
        · rw [hsm] at hs; cases hs
        · rw [hv] at hs; cases hs
        · exact decide_eq_true (by omega)
      clear hsm hs hv
      go_enter Try.func14, Try.ntmps14
      go_wp2_with fail
      refine (jhead_true _).mono ?_
      rintro e w1 ⟨rfl, g1⟩
      have d0 : w1.cell? ⟨w.heap.size, 0, none⟩ = some (.slice A n c) := g1.cell (by simp)
      have d1 : w1.cell? ⟨w.heap.size, 1, none⟩ = some (.slice A' n' c') := g1.cell (by simp)
      have gg := g0.trans g1
      clear g0 g1
      go_wp2_with fail
      refine (jsmall_any _ d _ (HH.out.grew gg) HMO.out).mono ?_
      rw [HS.out]
      rintro e w2 ⟨rfl, g2⟩
      replace d0 := g2.cell d0
      replace d1 := g2.cell d1
      replace gg := gg.trans g2
      clear g2
      go_wp2_with fail
      refine (rvalid_any _ d _ (HH.out.grew gg)).mono ?_
      rw [HV.out]
      rintro e w3 ⟨rfl, g3⟩
      clear d0 d1
      go_wp2_with fail
      go_ret
      exact ⟨rfl, gg.trans g3⟩

theorem pending_true (v : Value) (d : Ds) (A3 : Option Addr) (n3 c3 : Nat) (rec : List UInt8) (w : World) (h : Disk w v d) (hD : Bytes w A3 n3 c3 rec) (hmo : Modest d) :
    Calls Try.prog 14 #[v, .slice A3 n3 c3] w fun e w' => e = .returned (.bool true) ∧ Grew w w' := by
  obtain ⟨A, n, c, A', n', c', rfl, _, _⟩ := h.form
  by_cases hs : jsmallB d = false ∨ validB d = false ∨ 4106 < n3
  · exact pending_skip A n c A' n' c' d A3 n3 c3 w h hmo hs
  · exact pending_main A n c A' n' c' d A3 n3 c3 rec w h hD hmo (by cases e : jsmallB d <;> simp_all) (by cases e : validB d <;> simp_all) (by omega)
end Go.Proofs.Ytneipacdpojjkaa
