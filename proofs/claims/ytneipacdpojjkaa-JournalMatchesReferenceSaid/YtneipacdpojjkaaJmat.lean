/-
  The law JournalMatchesReference, walked.
-/
import Derived.Test.YtneipacdpojjkaaJrefF
import Derived.Test.YtneipacdpojjkaaJsmall
namespace Go.Proofs.Ytneipacdpojjkaa
open Go.RowKit Go.Proofs WageMem WageDisk

set_option maxRecDepth 100000 in
set_option maxHeartbeats 16000000 in
theorem jmat_s1 (A : Option Addr) (n c : Nat) (A' : Option Addr) (n' c' : Nat) (d : Ds) (A3 : Option Addr) (n3 c3 : Nat) (w : World) (h : Disk w (.agg #[.slice A n c, .slice A' n' c']) d) (hmo : Modest d) (hsm : jsmallB d = false) :
    Calls Try.prog 10 #[.agg #[.slice A n c, .slice A' n' c'], .slice A3 n3 c3] w fun e w' => e = .returned (.bool true) ∧ Grew w w' := by
  have gg : Grew w (w.alloc (.cells #[.slice A n c, .slice A' n' c'] 25)) := (Grew.refl w).alloc _
  have HH := Lib.hid h
  have HMO := Lib.hid hmo
  have HS := Lib.hid hsm
  clear h hmo hsm
  go_enter Try.func10, Try.ntmps10
  go_wp2_with fail
  refine (jhead_true _).mono ?_
  rintro e w1 ⟨rfl, g1⟩
  have d0 : w1.cell? ⟨w.heap.size, 0, none⟩ = some (.slice A n c) := g1.cell (by simp)
  have d1 : w1.cell? ⟨w.heap.size, 1, none⟩ = some (.slice A' n' c') := g1.cell (by simp)
  replace gg := gg.trans g1
  replace HH := Lib.hid (HH.out.grew gg)
  clear g1
  go_wp2_with fail
  refine (jsmall_any _ d _ HH.out HMO.out).mono ?_
  rw [HS.out]
  rintro e w2 ⟨rfl, g2⟩
  replace d0 := g2.cell d0
  replace d1 := g2.cell d1
  replace HH := Lib.hid (HH.out.grew g2)
  replace gg := gg.trans g2
  clear g2
  go_wp2_with fail
  go_ret
  exact ⟨rfl, gg⟩

set_option maxRecDepth 100000 in
set_option maxHeartbeats 16000000 in
theorem jmat_s2 (A : Option Addr) (n c : Nat) (A' : Option Addr) (n' c' : Nat) (d : Ds) (A3 : Option Addr) (n3 c3 : Nat) (w : World) (h : Disk w (.agg #[.slice A n c, .slice A' n' c']) d) (hmo : Modest d) (hsm : jsmallB d = true) (hn : 4106 < n3) :
    Calls Try.prog 10 #[.agg #[.slice A n c, .slice A' n' c'], .slice A3 n3 c3] w fun e w' => e = .returned (.bool true) ∧ Grew w w' := by
  have gg : Grew w (w.alloc (.cells #[.slice A n c, .slice A' n' c'] 25)) := (Grew.refl w).alloc _
  have HH := Lib.hid h
  have HMO := Lib.hid hmo
  have HS := Lib.hid hsm
  have t1 : decide (4106 < (n3 : Int)) = true := decide_eq_true (by omega)
  clear h hmo hsm hn
  go_enter Try.func10, Try.ntmps10
  go_wp2_with fail
  refine (jhead_true _).mono ?_
  rintro e w1 ⟨rfl, g1⟩
  have d0 : w1.cell? ⟨w.heap.size, 0, none⟩ = some (.slice A n c) := g1.cell (by simp)
  have d1 : w1.cell? ⟨w.heap.size, 1, none⟩ = some (.slice A' n' c') := g1.cell (by simp)
  replace gg := gg.trans g1
  replace HH := Lib.hid (HH.out.grew gg)
  clear g1
  go_wp2_with fail
  refine (jsmall_any _ d _ HH.out HMO.out).mono ?_
  rw [HS.out]
  rintro e w2 ⟨rfl, g2⟩
  replace d0 := g2.cell d0
  replace d1 := g2.cell d1
  replace HH := Lib.hid (HH.out.grew g2)
  replace gg := gg.trans g2
  clear g2
  go_wp2_with fail
  go_ret
  exact ⟨rfl, gg⟩

set_option maxRecDepth 100000 in
set_option maxHeartbeats 16000000 in
theorem jmat_main (A : Option Addr) (n c : Nat) (A' : Option Addr) (n' c' : Nat) (d : Ds) (A3 : Option Addr) (n3 c3 : Nat) (rec : List UInt8) (w : World) (h : Disk w (.agg #[.slice A n c, .slice A' n' c']) d) (hD : Bytes w A3 n3 c3 rec) (hmo : Modest d) (hsm : jsmallB d = true) (hn : n3 ≤ 4106) :
    Calls Try.prog 10 #[.agg #[.slice A n c, .slice A' n' c'], .slice A3 n3 c3] w fun e w' => e = .returned (.bool true) ∧ Grew w w' := by
  have gg : Grew w (w.alloc (.cells #[.slice A n c, .slice A' n' c'] 25)) := (Grew.refl w).alloc _
  have HH := Lib.hid h
  have HMO := Lib.hid hmo
  have HS := Lib.hid hsm
  have HD := Lib.hid hD
  have t1 : decide (4106 < (n3 : Int)) = false := decide_eq_false (by omega)
  obtain ⟨ls, hls⟩ : ∃ ls, jRecs d = ls := ⟨_, rfl⟩
  obtain ⟨en, hen⟩ : ∃ en : Int, (jEnd d : Int) = en := ⟨_, rfl⟩
  obtain ⟨aD, haD⟩ : ∃ s, appD d rec = s := ⟨_, rfl⟩
  obtain ⟨ea, hea⟩ : ∃ e, appE d rec = e := ⟨_, rfl⟩
  have HLS := Lib.hid hls
  have HEN := Lib.hid hen
  have HAD := Lib.hid haD
  have HEA := Lib.hid hea
  have q1 : (ea == ea) = true := by simp
  have q2 : (en == en) = true := by simp
  clear h hmo hsm hD hls hen haD hea
  go_enter Try.func10, Try.ntmps10
  go_wp2_with fail
  refine (jhead_true _).mono ?_
  rintro e w1 ⟨rfl, g1⟩
  have d0 : w1.cell? ⟨w.heap.size, 0, none⟩ = some (.slice A n c) := g1.cell (by simp)
  have d1 : w1.cell? ⟨w.heap.size, 1, none⟩ = some (.slice A' n' c') := g1.cell (by simp)
  replace gg := gg.trans g1
  replace HH := Lib.hid (HH.out.grew gg)
  clear g1
  go_wp2_with fail
  refine (jsmall_any _ d _ HH.out HMO.out).mono ?_
  rw [HS.out]
  rintro e w2 ⟨rfl, g2⟩
  replace d0 := g2.cell d0
  replace d1 := g2.cell d1
  replace HH := Lib.hid (HH.out.grew g2)
  replace gg := gg.trans g2
  clear g2
  replace HD := Lib.hid (HD.out.grew gg)
  go_wp2_with fail
  refine (append_val HH.out HD.out HAD.out HEA.out).mono ?_
  rintro e w3 ⟨B3, m3, f3, C3, p3, q3', rfl, fr3, g3⟩
  have K3 := Lib.hid fr3.now
  clear fr3
  replace d0 := g3.cell d0
  replace d1 := g3.cell d1
  replace HH := Lib.hid (HH.out.grew g3)
  replace HD := Lib.hid (HD.out.grew g3)
  replace gg := gg.trans g3
  clear g3
  have sz3 : w.heap.size < w3.heap.size := World.block_lt_of_cell? _ _ d0
  go_wp2_with fail
  obtain ⟨x3, hx3⟩ : ∃ x, x = w3.alloc (.cells #[.slice B3 m3 f3, .slice C3 p3 q3'] 25) := ⟨_, rfl⟩
  have ga3 : Grew w3 x3 := by rw [hx3]; exact (Grew.refl _).alloc _
  have b30 : x3.cell? ⟨w3.heap.size, 0, none⟩ = some (.slice B3 m3 f3) := by rw [hx3]; simp
  have b31 : x3.cell? ⟨w3.heap.size, 1, none⟩ = some (.slice C3 p3 q3') := by rw [hx3]; simp
  rw [← hx3]
  clear hx3 sz3
  replace d0 := ga3.cell d0
  replace d1 := ga3.cell d1
  replace HH := Lib.hid (HH.out.grew ga3)
  replace HD := Lib.hid (HD.out.grew ga3)
  replace K3 := Lib.hid (K3.out.grew ga3)
  replace gg := gg.trans ga3
  clear ga3
  refine (rappend_val HH.out HD.out HAD.out HEA.out).mono ?_
  rintro e w4 ⟨B4, m4, f4, C4, p4, q4', rfl, fr4, g4⟩
  have K4 := Lib.hid fr4.now
  clear fr4
  replace d0 := g4.cell d0
  replace d1 := g4.cell d1
  replace b30 := g4.cell b30
  replace b31 := g4.cell b31
  replace HH := Lib.hid (HH.out.grew g4)
  replace HD := Lib.hid (HD.out.grew g4)
  replace K3 := Lib.hid (K3.out.grew g4)
  replace gg := gg.trans g4
  clear g4
  have sz4 : w.heap.size < w4.heap.size := World.block_lt_of_cell? _ _ d0
  have sz5 : w3.heap.size < w4.heap.size := World.block_lt_of_cell? _ _ b30
  go_wp2_with fail
  obtain ⟨x4, hx4⟩ : ∃ x, x = w4.alloc (.cells #[.slice B4 m4 f4, .slice C4 p4 q4'] 25) := ⟨_, rfl⟩
  have ga4 : Grew w4 x4 := by rw [hx4]; exact (Grew.refl _).alloc _
  have b40 : x4.cell? ⟨w4.heap.size, 0, none⟩ = some (.slice B4 m4 f4) := by rw [hx4]; simp
  have b41 : x4.cell? ⟨w4.heap.size, 1, none⟩ = some (.slice C4 p4 q4') := by rw [hx4]; simp
  rw [← hx4]
  clear hx4 sz4 sz5
  replace d0 := ga4.cell d0
  replace d1 := ga4.cell d1
  replace b30 := ga4.cell b30
  replace b31 := ga4.cell b31
  replace HH := Lib.hid (HH.out.grew ga4)
  replace HD := Lib.hid (HD.out.grew ga4)
  replace K3 := Lib.hid (K3.out.grew ga4)
  replace K4 := Lib.hid (K4.out.grew ga4)
  replace gg := gg.trans ga4
  clear ga4
  refine (recs_int HH.out HLS.out HEN.out).mono ?_
  rintro e w5 ⟨L1, l1, t5, rfl, hL1, g5⟩
  have HL1 := Lib.hid hL1
  clear hL1
  replace d0 := g5.cell d0
  replace d1 := g5.cell d1
  replace b30 := g5.cell b30
  replace b31 := g5.cell b31
  replace b40 := g5.cell b40
  replace b41 := g5.cell b41
  replace HH := Lib.hid (HH.out.grew g5)
  replace HD := Lib.hid (HD.out.grew g5)
  replace K3 := Lib.hid (K3.out.grew g5)
  replace K4 := Lib.hid (K4.out.grew g5)
  replace gg := gg.trans g5
  clear g5
  go_wp2_with fail
  refine (rrecs_int HH.out HLS.out HEN.out).mono ?_
  rintro e w6 ⟨L2, l2, t6, rfl, hL2, g6⟩
  have HL2 := Lib.hid hL2
  clear hL2
  replace d0 := g6.cell d0
  replace d1 := g6.cell d1
  replace b30 := g6.cell b30
  replace b31 := g6.cell b31
  replace b40 := g6.cell b40
  replace b41 := g6.cell b41
  replace HH := Lib.hid (HH.out.grew g6)
  replace HD := Lib.hid (HD.out.grew g6)
  replace K3 := Lib.hid (K3.out.grew g6)
  replace K4 := Lib.hid (K4.out.grew g6)
  replace HL1 := Lib.hid (HL1.out.grew g6)
  replace gg := gg.trans g6
  clear g6
  go_wp2_with fail
  refine (jsameD K3.out K4.out).mono ?_
  rintro e w7 ⟨rfl, g7⟩
  replace d0 := g7.cell d0
  replace d1 := g7.cell d1
  replace b30 := g7.cell b30
  replace b31 := g7.cell b31
  replace b40 := g7.cell b40
  replace b41 := g7.cell b41
  replace HH := Lib.hid (HH.out.grew g7)
  replace HD := Lib.hid (HD.out.grew g7)
  replace K3 := Lib.hid (K3.out.grew g7)
  replace K4 := Lib.hid (K4.out.grew g7)
  replace HL1 := Lib.hid (HL1.out.grew g7)
  replace HL2 := Lib.hid (HL2.out.grew g7)
  replace gg := gg.trans g7
  clear g7
  go_wp2_with fail
  refine (sameAll_any _ _ _ _ _ _ _ _ _ HL1.out HL2.out).mono ?_
  rw [decide_eq_true rfl]
  rintro e w8 ⟨rfl, g8⟩
  go_wp2_with fail
  go_ret
  exact ⟨rfl, gg.trans g8⟩

theorem jmat_true (v : Value) (d : Ds) (A3 : Option Addr) (n3 c3 : Nat) (rec : List UInt8) (w : World) (h : Disk w v d) (hD : Bytes w A3 n3 c3 rec) (hmo : Modest d) :
    Calls Try.prog 10 #[v, .slice A3 n3 c3] w fun e w' => e = .returned (.bool true) ∧ Grew w w' := by
  obtain ⟨A, n, c, A', n', c', rfl, _, _⟩ := h.form
  cases hs : jsmallB d with
  | false => exact jmat_s1 A n c A' n' c' d A3 n3 c3 w h hmo hs
  | true =>
    by_cases hn : 4106 < n3
    · exact jmat_s2 A n c A' n' c' d A3 n3 c3 w h hmo hs hn
    · exact jmat_main A n c A' n' c' d A3 n3 c3 rec w h hD hmo hs (by omega)
end Go.Proofs.Ytneipacdpojjkaa
