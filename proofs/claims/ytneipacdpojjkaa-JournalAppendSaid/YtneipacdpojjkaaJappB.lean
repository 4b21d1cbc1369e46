/-
  The law JournalAppend, walked: a record that fits; all cases joined.
-/
import Derived.Test.YtneipacdpojjkaaJapp
namespace Go.Proofs.Ytneipacdpojjkaa
open Go.RowKit Go.Proofs WageMem WageDisk

theorem app_len {d : Ds} {rec : List UInt8} (hv : validB d = true) (hf : fitsB d rec = true) : (appB d rec).length = d.st.length := stg_len hv hf 3 (Nat.le_refl _)
theorem app_valid {d : Ds} {rec : List UInt8} (hv : validB d = true) (hf : fitsB d rec = true) : validB ⟨appB d rec, []⟩ = true := by
  unfold validB
  rw [decide_eq_true ⟨by show (appB d rec).length ≤ 65536; rw [app_len hv hf]; exact (valid_size hv).1, by show 0 ≤ 64; omega⟩]; rfl
theorem read_to {d : Ds} (hv : validB d = true) {e : Nat} (he : e ≤ d.st.length) : readB d 0 (e : Int) = (bytesD d).take e ∧ readE d 0 (e : Int) = 0 := by
  have hi : insideB 0 (e : Int) d.st.length = true := decide_eq_true ⟨by omega, by omega, by omega, by omega⟩
  unfold readB readE
  rw [hv, hi]
  exact ⟨rfl, rfl⟩

set_option maxRecDepth 100000 in
set_option maxHeartbeats 16000000 in
theorem japp_main (A : Option Addr) (n c : Nat) (A' : Option Addr) (n' c' : Nat) (d : Ds) (A3 : Option Addr) (n3 c3 : Nat) (rec : List UInt8) (w : World) (h : Disk w (.agg #[.slice A n c, .slice A' n' c']) d) (hD : Bytes w A3 n3 c3 rec) (hmo : Modest d)
    (hsm : jsmallB d = true) (h3 : n3 ≤ 4106) (hv : validB d = true) (h0 : 0 < n3) (hf : fitsB d rec = true) :
    Calls Try.prog 11 #[.agg #[.slice A n c, .slice A' n' c'], .slice A3 n3 c3] w fun e w' => e = .returned (.bool true) ∧ Grew w w' := by
  have g0 : Grew w (w.alloc (.cells #[.slice A n c, .slice A' n' c'] 25)) := (Grew.refl w).alloc _
  have HH := Lib.hid h
  have HMO := Lib.hid hmo
  have t1 : decide (4106 < (n3 : Int)) = false := decide_eq_false (by omega)
  have HS := Lib.hid hsm
  have HD := Lib.hid hD
  have hle := jEnd_le d
  rw [h.parts.1.1] at hle
  have hnb : n ≤ 140737488355328 := by rw [← h.parts.1.1]; exact hmo.1
  obtain ⟨ls, hls⟩ : ∃ ls, jRecs d = ls := ⟨_, rfl⟩
  obtain ⟨en, hen⟩ : ∃ en : Nat, jEnd d = en := ⟨_, rfl⟩
  rw [hen] at hle
  have H2 := Lib.hid hls
  have H3 : Hid ((jEnd d : Int) = (en : Int)) := by unfold Hid; rw [hen]
  have hr1 : 1 ≤ rec.length := by rw [hD.1]; omega
  obtain ⟨r1, r2, r3⟩ := app_recs hv hr1 hf
  have hda : appD d rec = ⟨appB d rec, []⟩ := by unfold appD; rw [hv, decide_eq_true (show 0 < rec.length by omega), hf]; rfl
  have hea : appE d rec = 0 := by unfold appE; rw [hv, decide_eq_true (show 0 < rec.length by omega), hf]; rfl
  have hav := app_valid hv hf
  have hal := app_len hv hf
  have hER : endAt (bytesD d) = en := by rw [← hen]; unfold jEnd; rw [hv]; rfl
  have hja : jRecs ⟨appB d rec, []⟩ = ls ++ [rec] := by
    rw [← hls]; unfold jRecs; rw [hav, hv]; exact r1
  have hjE : (jEnd ⟨appB d rec, []⟩ : Int) = (en : Int) + 13 + n3 := by
    have : jEnd ⟨appB d rec, []⟩ = en + (13 + n3) := by unfold jEnd; rw [hav, if_pos rfl]; show endAt (appB d rec) = _; rw [r2, hER, hD.1]
    omega
  obtain ⟨rb1, re1⟩ := read_to hv (e := en) (by rw [h.parts.1.1]; exact hle)
  obtain ⟨rb2, re2⟩ := read_to hav (e := en) (by show en ≤ (appB d rec).length; rw [hal, h.parts.1.1]; exact hle)
  have hsame : (appB d rec).take en = (bytesD d).take en := by
    have := r3.part (a := 0) (m := en) (by omega)
    rw [List.drop_zero, List.drop_zero] at this
    exact this.symm
  have rb3 : readB ⟨appB d rec, []⟩ 0 (en : Int) = (bytesD d).take en := rb2.trans hsame
  have hn4 : (appB d rec).length = n := by rw [hal, h.parts.1.1]
  have hll : ls.length ≤ 65536 := by
    have := jRecs_len d
    rw [hls] at this
    have := (valid_size hv).1
    omega
  obtain ⟨ob, hob⟩ : ∃ ob, (bytesD d).take en = ob := ⟨_, rfl⟩
  rw [hob] at rb1 rb3
  have H4 := Lib.hid hda
  have H5 := Lib.hid hea
  have H6 := Lib.hid hja
  have H7 := Lib.hid hjE
  have H8 := Lib.hid rb1
  have H9 := Lib.hid re1
  have H10 := Lib.hid rb3
  have H11 := Lib.hid re2
  have H12 := Lib.hid hn4
  have HLL := Lib.hid hll
  generalize appB d rec = ab at *
  have q1 : ((0 : Int) != 0) = false := rfl
  have q2 : ((en : Int) + 13 + (n3 : Int) == (en : Int) + 13 + (n3 : Int)) = true := by simp
  have q3 : ((n : Int) == (n : Int)) = true := by simp
  clear hsm h hD hmo hls hen hda hea hja hjE rb1 rb2 rb3 re1 re2 hsame hn4 hob hav hal hER hv hf r1 r2 r3 hll hr1
  go_enter Try.func11, Try.ntmps11
  go_wp2_with fail
  refine (jhead_true _).mono ?_
  rintro e w1 ⟨rfl, g1⟩
  have d0 : w1.cell? ⟨w.heap.size, 0, none⟩ = some (.slice A n c) := g1.cell (by simp)
  have d1 : w1.cell? ⟨w.heap.size, 1, none⟩ = some (.slice A' n' c') := g1.cell (by simp)
  have gg := g0.trans g1
  clear g0 g1
  go_wp2_with fail
  refine (jsmall_any _ d _ (HH.out.grew gg) HMO.out).mono ?_
  rw [HS.out]
  rintro e w2 ⟨rfl, g2⟩
  replace d0 := g2.cell d0
  replace d1 := g2.cell d1
  replace gg := gg.trans g2
  clear g2
  go_wp2_with fail
  refine (recs_int (HH.out.grew gg) H2.out H3.out).mono ?_
  rintro e w3 ⟨L1, l1, t5, rfl, hL1, g3⟩
  replace d0 := g3.cell d0
  replace d1 := g3.cell d1
  replace gg := gg.trans g3
  have HL1 := Lib.hid hL1
  clear hL1 g3
  go_wp2_with fail
  refine (append_val (HH.out.grew gg) (HD.out.grew gg) H4.out H5.out).mono ?_
  rintro e w4 ⟨B4, m4, f4, C4, p4, q4, rfl, fr4, g4⟩
  replace d0 := g4.cell d0
  replace d1 := g4.cell d1
  have sz4 : w.heap.size < w4.heap.size := World.block_lt_of_cell? _ _ d0
  obtain rfl : m4 = n := by have := fr4.now.parts.1.1; rw [← this]; exact H12.out
  obtain rfl : p4 = 0 := fr4.now.parts.2.1.symm
  go_wp2_with fail
  obtain ⟨x4, hx4⟩ : ∃ x, x = w4.alloc (.cells #[.slice B4 m4 f4, .slice C4 0 q4] 25) := ⟨_, rfl⟩
  have ga4 : Grew w4 x4 := by rw [hx4]; exact (Grew.refl _).alloc _
  have b40 : x4.cell? ⟨w4.heap.size, 0, none⟩ = some (.slice B4 m4 f4) := by rw [hx4]; simp
  have b41 : x4.cell? ⟨w4.heap.size, 1, none⟩ = some (.slice C4 0 q4) := by rw [hx4]; simp
  have k4 := Lib.hid (fr4.now.grew ga4)
  rw [← hx4]
  replace d0 := ga4.cell d0
  replace d1 := ga4.cell d1
  replace HL1 := Lib.hid ((HL1.out.grew g4).grew ga4)
  replace gg := (gg.trans g4).trans ga4
  clear hx4 fr4 g4 ga4 sz4
  refine (recs_int k4.out H6.out H7.out).mono ?_
  rintro e w5 ⟨L2, l2, t6, rfl, _, g5⟩
  replace d0 := g5.cell d0
  replace d1 := g5.cell d1
  replace b40 := g5.cell b40
  replace b41 := g5.cell b41
  replace k4 := Lib.hid (k4.out.grew g5)
  replace HL1 := Lib.hid (HL1.out.grew g5)
  replace gg := gg.trans g5
  clear g5
  go_wp2_with fail
  refine (read_val (HH.out.grew gg) (by decide) (by omega) (by decide) (by omega) H8.out H9.out).mono ?_
  rintro e w6 ⟨R1, r1, s1, rfl, fr6, g6⟩
  have KR := Lib.hid fr6.now
  replace d0 := g6.cell d0
  replace d1 := g6.cell d1
  replace b40 := g6.cell b40
  replace b41 := g6.cell b41
  replace k4 := Lib.hid (k4.out.grew g6)
  replace HL1 := Lib.hid (HL1.out.grew g6)
  replace gg := gg.trans g6
  clear g6 fr6
  go_wp2_with fail
  refine (read_val k4.out (by decide) (by omega) (by decide) (by omega) H10.out H11.out).mono ?_
  rintro e w7 ⟨R2, r2, s2, rfl, fr7, g7⟩
  have KS := Lib.hid fr7.now
  replace KR := Lib.hid (KR.out.grew g7)
  replace d0 := g7.cell d0
  replace d1 := g7.cell d1
  replace b40 := g7.cell b40
  replace b41 := g7.cell b41
  replace k4 := Lib.hid (k4.out.grew g7)
  replace HL1 := Lib.hid (HL1.out.grew g7)
  replace gg := gg.trans g7
  have hl1 : l1 ≤ 65536 := by rw [← HL1.out.1]; exact HLL.out
  clear g7 fr7
  go_wp2_with fail
  refine (appended_true k4.out HL1.out (HD.out.grew gg) H6.out hl1).mono ?_
  rintro e w8 ⟨rfl, g8⟩
  replace d0 := g8.cell d0
  replace d1 := g8.cell d1
  replace b40 := g8.cell b40
  replace b41 := g8.cell b41
  go_wp2_with fail
  refine (jsame_ok (KR.out.grew g8) (KS.out.grew g8) rfl).mono ?_
  rintro e w9 ⟨rfl, g9⟩
  replace d0 := g9.cell d0
  replace d1 := g9.cell d1
  replace b40 := g9.cell b40
  replace b41 := g9.cell b41
  go_wp2_with fail
  go_ret
  exact ⟨rfl, (gg.trans g8).trans g9⟩

theorem japp_true (v : Value) (d : Ds) (A3 : Option Addr) (n3 c3 : Nat) (rec : List UInt8) (w : World) (h : Disk w v d) (hD : Bytes w A3 n3 c3 rec) (hmo : Modest d) :
    Calls Try.prog 11 #[v, .slice A3 n3 c3] w fun e w' => e = .returned (.bool true) ∧ Grew w w' := by
  obtain ⟨A, n, c, A', n', c', rfl, _, _⟩ := h.form
  by_cases hs : jsmallB d = false ∨ 4106 < n3
  · exact japp_skip A n c A' n' c' d A3 n3 c3 w h hmo hs
  · have hsm : jsmallB d = true := by cases e : jsmallB d <;> simp_all
    by_cases hne : appE d rec = 0
    · have hq : validB d = true ∧ 0 < rec.length ∧ fitsB d rec = true := by
        unfold appE at hne
        split at hne
        · rename_i q
          rw [Bool.and_eq_true] at q
          split at hne
          · rename_i q2; exact ⟨q.1, of_decide_eq_true q.2, q2⟩
          · cases hne
        · cases hne
      exact japp_main A n c A' n' c' d A3 n3 c3 rec w h hD hmo hsm (by omega) hq.1 (by rw [← hD.1]; exact hq.2.1) hq.2.2
    · exact japp_fail A n c A' n' c' d A3 n3 c3 rec w h hD hmo hsm (by omega) hne
end Go.Proofs.Ytneipacdpojjkaa
