/-
  The law JournalAppend, walked.
-/
import Derived.Test.YtneipacdpojjkaaApnd
namespace Go.Proofs.Ytneipacdpojjkaa
open Go.RowKit Go.Proofs WageMem WageDisk

set_option maxRecDepth 100000 in
set_option maxHeartbeats 16000000 in
theorem japp_skip (A : Option Addr) (n c : Nat) (A' : Option Addr) (n' c' : Nat) (d : Ds) (A3 : Option Addr) (n3 c3 : Nat) (w : World) (h : Disk w (.agg #[.slice A n c, .slice A' n' c']) d) (hmo : Modest d)
    (hs : jsmallB d = false ∨ 4106 < n3) :
    Calls Try.prog 11 #[.agg #[.slice A n c, .slice A' n' c'], .slice A3 n3 c3] w fun e w' => e = .returned (.bool true) ∧ Grew w w' := by
  have g0 : Grew w (w.alloc (.cells #[.slice A n c, .slice A' n' c'] 25)) := (Grew.refl w).alloc _
  have HH := Lib.hid h
  have HMO := Lib.hid hmo
  clear h hmo
  cases hsm : jsmallB d with
  | false =>
    have HS := Lib.hid hsm
    clear hsm hs
    go_enter Try.func11, Try.ntmps11
    go_wp2_with fail
    refine (jhead_true _).mono ?_
    rintro e w1 ⟨rfl, g1⟩
    have d0 : w1.cell? ⟨w.heap.size, 0, none⟩ = some (.slice A n c) := g1.cell (by simp)
    have d1 : w1.cell? ⟨w.heap.size, 1, none⟩ = some (.slice A' n' c') := g1.cell (by simp)
    have gg := g0.trans g1
    clear g0 g1
    go_wp2_with fail
    refine (jsmall_any _ d _ (HH.out.grew gg) HMO.out).mono ?_
    rw [HS.out]
    rintro e w2 ⟨rfl, g2⟩
    clear d0 d1
    go_wp2_with fail
    go_ret
    exact ⟨rfl, gg.trans g2⟩
  | true =>
    have HS := Lib.hid hsm
    have t1 : decide (4106 < (n3 : Int)) = true := by
      rcases hs with hs | hs
      · rw [hsm] at hs; cases hs
      · exact decide_eq_true (by omega)
    clear hsm hs
    go_enter Try.func11, Try.ntmps11
    go_wp2_with fail
    refine (jhead_true _).mono ?_
    rintro e w1 ⟨rfl, g1⟩
    have d0 : w1.cell? ⟨w.heap.size, 0, none⟩ = some (.slice A n c) := g1.cell (by simp)
    have d1 : w1.cell? ⟨w.heap.size, 1, none⟩ = some (.slice A' n' c') := g1.cell (by simp)
    have gg := g0.trans g1
    clear g0 g1
    go_wp2_with fail
    refine (jsmall_any _ d _ (HH.out.grew gg) HMO.out).mono ?_
    rw [HS.out]
    rintro e w2 ⟨rfl, g2⟩
    clear d0 d1
    go_wp2_with fail
    go_ret
    exact ⟨rfl, gg.trans g2⟩

set_option maxRecDepth 100000 in
set_option maxHeartbeats 16000000 in
theorem japp_fail (A : Option Addr) (n c : Nat) (A' : Option Addr) (n' c' : Nat) (d : Ds) (A3 : Option Addr) (n3 c3 : Nat) (rec : List UInt8) (w : World) (h : Disk w (.agg #[.slice A n c, .slice A' n' c']) d) (hD : Bytes w A3 n3 c3 rec) (hmo : Modest d)
    (hsm : jsmallB d = true) (h3 : n3 ≤ 4106) (hne : appE d rec ≠ 0) :
    Calls Try.prog 11 #[.agg #[.slice A n c, .slice A' n' c'], .slice A3 n3 c3] w fun e w' => e = .returned (.bool true) ∧ Grew w w' := by
  have g0 : Grew w (w.alloc (.cells #[.slice A n c, .slice A' n' c'] 25)) := (Grew.refl w).alloc _
  have HH := Lib.hid h
  have HMO := Lib.hid hmo
  have t1 : decide (4106 < (n3 : Int)) = false := decide_eq_false (by omega)
  have HS := Lib.hid hsm
  have HD := Lib.hid hD
  have hle := jEnd_le d
  rw [h.parts.1.1] at hle
  have hnb : n ≤ 140737488355328 := by rw [← h.parts.1.1]; exact hmo.1
  obtain ⟨ls, hls⟩ : ∃ ls, jRecs d = ls := ⟨_, rfl⟩
  obtain ⟨en, hen⟩ : ∃ en : Nat, jEnd d = en := ⟨_, rfl⟩
  rw [hen] at hle
  have H2 := Lib.hid hls
  have H3 : Hid ((jEnd d : Int) = (en : Int)) := by unfold Hid; rw [hen]
  have hda : appD d rec = emptyD := by
    unfold appE at hne
    unfold appD
    split at hne
    · rename_i q
      split at hne
      · exact absurd rfl hne
      · rename_i q2; rw [q]; simp [q2]
    · rename_i q
      have : (validB d && decide (0 < rec.length)) = false := by simpa using q
      rw [this]; rfl
  have hcs : validB d = false ∨ (validB d = true ∧ (n3 = 0 ∨ 4096 < n3 ∨ n < en + (13 + n3))) := by
    cases hv : validB d with
    | false => exact .inl rfl
    | true =>
      refine .inr ⟨rfl, ?_⟩
      unfold appE at hne
      rw [hv, Bool.true_and] at hne
      by_cases q : 0 < rec.length
      · rw [decide_eq_true q, if_pos rfl] at hne
        have hf : fitsB d rec = false := by cases e : fitsB d rec with | false => rfl | true => rw [e, if_pos rfl] at hne; exact absurd rfl hne
        unfold fitsB at hf
        rw [hD.1, hen, h.parts.1.1, Bool.and_eq_false_iff] at hf
        rcases hf with hf | hf
        · have := of_decide_eq_false hf; omega
        · have := of_decide_eq_false hf; omega
      · have := hD.1; omega
  obtain ⟨ea, hea⟩ : ∃ ea, appE d rec = ea := ⟨_, rfl⟩
  rw [hea] at hne
  have q1 : (ea != 0) = true := by rw [bne_iff_ne]; exact hne
  have H4 := Lib.hid hda
  have H5 := Lib.hid hea
  have hfit : (decide (0 < n3) = false) ∨ (decide (0 < n3) = true ∧ decide ((n3 : Int) ≤ 4096) = false) ∨ (decide (0 < n3) = true ∧ decide ((n3 : Int) ≤ 4096) = true ∧ decide ((en : Int) + 13 + n3 ≤ n) = false) ∨ (validB d = false ∧ decide (0 < n3) = true ∧ decide ((n3 : Int) ≤ 4096) = true ∧ decide ((en : Int) + 13 + n3 ≤ n) = true) := by
    by_cases a1 : 0 < n3
    · by_cases a2 : n3 ≤ 4096
      · by_cases a3 : en + (13 + n3) ≤ n
        · refine .inr (.inr (.inr ⟨?_, decide_eq_true (by omega), decide_eq_true (by omega), decide_eq_true (by omega)⟩))
          rcases hcs with q | ⟨_, q⟩
          · exact q
          · omega
        · exact .inr (.inr (.inl ⟨decide_eq_true (by omega), decide_eq_true (by omega), decide_eq_false (by omega)⟩))
      · exact .inr (.inl ⟨decide_eq_true (by omega), decide_eq_false (by omega)⟩)
    · exact .inl (decide_eq_false (by omega))
  obtain ⟨vv, hvv⟩ : ∃ vv, validB d = vv := ⟨_, rfl⟩
  rw [hvv] at hfit
  have HV := Lib.hid hvv
  clear hsm h hD hmo hls hen hda hne hea hcs hvv
  rcases hfit with u1 | ⟨u1, u2⟩ | ⟨u1, u2, u3⟩ | ⟨rfl, u1, u2, u3⟩
  all_goals (try cases vv)
  all_goals
    go_enter Try.func11, Try.ntmps11
    go_wp2_with fail
    refine (jhead_true _).mono ?_
    rintro e w1 ⟨rfl, g1⟩
    have d0 : w1.cell? ⟨w.heap.size, 0, none⟩ = some (.slice A n c) := g1.cell (by simp)
    have d1 : w1.cell? ⟨w.heap.size, 1, none⟩ = some (.slice A' n' c') := g1.cell (by simp)
    have gg := g0.trans g1
    clear g0 g1
    go_wp2_with fail
    refine (jsmall_any _ d _ (HH.out.grew gg) HMO.out).mono ?_
    rw [HS.out]
    rintro e w2 ⟨rfl, g2⟩
    replace d0 := g2.cell d0
    replace d1 := g2.cell d1
    replace gg := gg.trans g2
    clear g2
    go_wp2_with fail
    refine (recs_int (HH.out.grew gg) H2.out H3.out).mono ?_
    rintro e w3 ⟨L1, l1, t5, rfl, hL1, g3⟩
    replace d0 := g3.cell d0
    replace d1 := g3.cell d1
    replace gg := gg.trans g3
    have HL1 := Lib.hid hL1
    clear hL1 g3
    go_wp2_with fail
    refine (append_val (HH.out.grew gg) (HD.out.grew gg) H4.out H5.out).mono ?_
    rintro e w4 ⟨B4, m4, f4, C4, p4, q4, rfl, fr4, g4⟩
    replace d0 := g4.cell d0
    replace d1 := g4.cell d1
    have sz4 : w.heap.size < w4.heap.size := World.block_lt_of_cell? _ _ d0
    have hk4 := fr4.now
    obtain rfl : m4 = 0 := hk4.parts.1.1.symm
    go_wp2_with fail
    have ga4 : Grew w4 (w4.alloc (.cells #[.slice B4 0 f4, .slice C4 p4 q4] 25)) := (Grew.refl _).alloc _
    refine (rvalid_any _ d _ (HH.out.grew ((gg.trans g4).trans ga4))).mono ?_
    rw [HV.out]
    rintro e w5 ⟨rfl, g5⟩
    have b40 : w5.cell? ⟨w4.heap.size, 0, none⟩ = some (.slice B4 0 f4) := g5.cell (by simp)
    clear d0 d1 sz4
    go_wp2_with fail
    go_ret
    first
      | exact ⟨rfl, ((gg.trans g4).trans ga4).trans g5⟩
      | exact ⟨by show Ending.returned (.bool (!decide (0 < (n3 : Int)))) = _; rw [u1]; rfl, ((gg.trans g4).trans ga4).trans g5⟩
      | exact ⟨by show Ending.returned (.bool (!decide ((n3 : Int) ≤ 4096))) = _; rw [u2]; rfl, ((gg.trans g4).trans ga4).trans g5⟩
      | exact ⟨by show Ending.returned (.bool (!decide ((en : Int) + 13 + n3 ≤ n))) = _; rw [u3]; rfl, ((gg.trans g4).trans ga4).trans g5⟩

end Go.Proofs.Ytneipacdpojjkaa
