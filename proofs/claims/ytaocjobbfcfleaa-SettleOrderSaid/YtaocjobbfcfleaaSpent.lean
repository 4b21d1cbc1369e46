/-
  settle.Spent.
-/
import Derived.Test.YtaocjobbfcfleaaValO
import Derived.Test.YtaocjobbfcfleaaDeskP
namespace Go.Proofs.Ytaocjobbfcfleaa
open Go.RowKit Go.Proofs WageMem WageOrd WageRec WageMap WageReg WageSet

theorem ret_int {a b : Int} (h : a = b) : Ending.returned (.int .i64 a) = .returned (.int .i64 b) := by rw [h]
set_option maxRecDepth 100000 in
set_option maxHeartbeats 8000000 in
theorem spent_any (A B : Option Addr) (n c m e : Nat) (d : Desk) (acc : ByteArray) (w : World) (h : DeskIs w A n c B m e d) : Calls Try.prog 16 #[.agg #[.slice A n c, .slice B m e], .string acc] w fun r w' => r = .returned (.int .i64 (spentL d acc)) ∧ Grew w w' := by
  have HH := Lib.hid h
  have HL := Lib.hid h.1.1.1
  obtain ⟨wd, hwd⟩ : ∃ x, x = w.alloc (.cells #[.slice A n c, .slice B m e] 25) := ⟨_, rfl⟩
  have G0 : Hid (Grew w wd) := by unfold Hid; rw [hwd]; exact (Grew.refl w).alloc _
  have HRD : Hid (wd.rangeAt w.heap.size 0 [.slice A n c, .slice B m e]) := by unfold Hid; rw [hwd]; exact range_new w _ 25
  clear h
  cases hv : validB d with
  | false =>
    have HV := Lib.hid hv
    have HZ : Hid (spentL d acc = 0) := by unfold Hid spentL; rw [hv]; rfl
    clear hv
    go_enter Try.func16, Try.ntmps16
    go_wp2_with fail
    rw [← hwd]
    clear hwd
    refine (valid_val (HH.out.grew G0.out) HV.out).mono ?_
    rintro r w5 ⟨rfl, g5⟩
    go_wp2_with fail
    go_ret
    exact ⟨ret_int HZ.out.symm, G0.out.trans g5⟩
  | true =>
    have HV := Lib.hid hv
    have HZ : Hid (spentL d acc = sm (spF acc) d.ss) := by unfold Hid spentL; rw [hv]; rfl
    clear hv
    go_enter Try.func16, Try.ntmps16
    go_wp2_with fail
    rw [← hwd]
    clear hwd
    refine (valid_val (HH.out.grew G0.out) HV.out).mono ?_
    rintro r w5 ⟨rfl, g5⟩
    have hr0 := range_grew HRD.out g5 0 _ rfl
    have hr1 := range_grew HRD.out g5 1 _ rfl
    simp only [Nat.zero_add] at hr0 hr1
    have g0 := G0.out.trans g5
    clear G0 HRD g5
    go_wp2_with fail
    clear hr0 hr1
    have hn4 : n ≤ 400 := by rw [← HL.out]; exact (valid_parts HV.out).1
    go_loopw [5, 14] (fun v i y => ∃ (k : Nat) (s : Int), k ≤ n ∧ i = .int .i64 k ∧ v = .int .i64 s ∧ Hid (s = sm (spF acc) (d.ss.take k)) ∧ Grew w y) (fun _ i _ => n - (intOf i).toNat)
    case atStart => exact ⟨0, 0, Nat.zero_le _, rfl, rfl, rfl, g0⟩
    case round =>
      clear g0
      obtain ⟨k, s, hk, rfl, rfl, HS, hg⟩ := hrel
      have hsb := sm_sp_bound HV.out acc k
      rw [← HS.out] at hsb
      obtain ⟨hs1, hs2⟩ := hsb
      by_cases hlt : k < n
      · obtain ⟨b, o, x, rfl, hx, hr⟩ := (HH.out.1.1.grew hg).at_ se_ok hlt
        have HX := Lib.hid hx
        have hb := sta_bound HV.out (List.mem_of_getElem? hx)
        have k0 : (0 : Int) ≤ (k : Int) := by omega
        have k1 : (k : Int) < (n : Int) := by omega
        obtain ⟨c0, c1, c2, c3, c4, c5, c6⟩ := s_cells hr
        obtain ⟨wa, hwa⟩ : ∃ y, y = wr.alloc (.cells #[.int .i64 x.p.id, .string x.p.acc, .int .i64 x.p.c, .int .i64 x.p.d, .int .i64 x.st, .int .i64 x.pd, .int .i64 x.bk] 43) := ⟨_, rfl⟩
        have ga : Grew wr wa := by rw [hwa]; exact (Grew.refl wr).alloc _
        have hrx : wa.rangeAt wr.heap.size 0 (se x) := by rw [hwa]; exact range_new wr (se x) 43
        obtain ⟨x0, x1, x2, x3, x4, x5, x6⟩ := s_cells0 hrx
        have gE := hg.trans ga
        clear hx hr hrx hg ga
        by_cases h1 : x.p.acc = acc
        · have q1 : (x.p.acc.toList == acc.toList) = true := by rw [str_eq]; exact decide_eq_true h1
          by_cases h2 : x.st = 4
          · have q2 : (x.st != 4) = false := by rw [bne_eq_false_iff_eq]; exact h2
            have HS2 : Hid (s = sm (spF acc) (d.ss.take (k + 1))) := by unfold Hid; rw [sm_take _ HX.out, ← HS.out]; unfold spF; rw [if_neg (fun hh => hh.2 h2)]; omega
            clear h1 h2
            go_upto_region 7 with (fail)
            rw [← hwa]
            clear hwa c0 c1 c2 c3 c4 c5 c6
            go_wp2_with fail
            go_roundw
            case rel => exact ⟨k + 1, s, by omega, by go_num, rfl, HS2, gE⟩
            case measure => simp [intOf]; omega
          · have q2 : (x.st != 4) = true := by rw [bne_iff_ne]; exact h2
            have HS2 : Hid (s + (x.p.c - x.bk) = sm (spF acc) (d.ss.take (k + 1))) := by unfold Hid; rw [sm_take _ HX.out, ← HS.out]; unfold spF; rw [if_pos ⟨h1, h2⟩]
            have w1 : IntKind.i64.wrap (x.p.c - x.bk) = x.p.c - x.bk := IntWalk.i64_in _ (by omega)
            have w2 : IntKind.i64.wrap (s + (x.p.c - x.bk)) = s + (x.p.c - x.bk) := IntWalk.i64_in _ (by omega)
            clear h1 h2
            go_upto_region 7 with (fail)
            rw [← hwa]
            clear hwa c0 c1 c2 c3 c4 c5 c6
            go_wp2_with fail
            go_roundw
            case rel => exact ⟨k + 1, s + (x.p.c - x.bk), by omega, by go_num, rfl, HS2, gE⟩
            case measure => simp [intOf]; omega
        · have q1 : (x.p.acc.toList == acc.toList) = false := by rw [str_eq]; exact decide_eq_false h1
          have HS2 : Hid (s = sm (spF acc) (d.ss.take (k + 1))) := by unfold Hid; rw [sm_take _ HX.out, ← HS.out]; unfold spF; rw [if_neg (fun hh => h1 hh.1)]; omega
          clear h1
          go_upto_region 7 with (fail)
          rw [← hwa]
          clear hwa c0 c1 c2 c3 c4 c5 c6
          go_wp2_with fail
          go_roundw
          case rel => exact ⟨k + 1, s, by omega, by go_num, rfl, HS2, gE⟩
          case measure => simp [intOf]; omega
      · have HS3 : Hid (s = spentL d acc) := by
          unfold Hid
          rw [HZ.out, HS.out, List.take_of_length_le (by rw [HL.out]; omega)]
        go_wp2_with fail
        go_ret
        exact ⟨ret_int HS3.out, hg⟩
theorem spent_val {A B : Option Addr} {n c m e : Nat} {d : Desk} {acc : ByteArray} {w : World} {s : Int} (h : DeskIs w A n c B m e d) (hs : spentL d acc = s) : Calls Try.prog 16 #[.agg #[.slice A n c, .slice B m e], .string acc] w fun r w' => r = .returned (.int .i64 s) ∧ Grew w w' := by subst hs; exact spent_any A B n c m e d acc w h
end Go.Proofs.Ytaocjobbfcfleaa
