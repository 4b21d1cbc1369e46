/-
 Refutations: Check.
-/
import Derived.Test.YtnnbibmmofnkdaaGreatRefM
namespace Go.Proofs.YtnnbibmmofnkdaaGreat
open Go.RowKit Go.Proofs WageMem WageReg WageRec WageSpan WageTop
theorem folB_fun {p : Pl} {bound : Int} {log : List Stp} : checkB (envP p) bound log = ((List.range log.length).all (folB p bound log) && lastNil log) := rfl
/-- What is left of a check. -/
def restB (p : Pl) (bound : Int) (log : List Stp) (k : Nat) : Bool := (List.range' k (log.length - k)).all (folB p bound log) && lastNil log
theorem restB_all {p : Pl} {bound : Int} {log : List Stp} : restB p bound log 0 = checkB (envP p) bound log := by
 unfold restB; rw [folB_fun, List.range_eq_range', Nat.sub_zero]
theorem restB_step {p : Pl} {bound : Int} {log : List Stp} {k : Nat} (h : k < log.length) : restB p bound log k = (folB p bound log k && restB p bound log (k + 1)) := by
 unfold restB
 rw [show log.length - k = (log.length - (k + 1)) + 1 by omega, List.range'_succ, List.all_cons, Bool.and_assoc]
theorem restB_end {p : Pl} {bound : Int} {log : List Stp} : restB p bound log log.length = lastNil log := by
 unfold restB; rw [Nat.sub_self]; rfl
theorem lastNil_at {log : List Stp} {s : Stp} (h : log[log.length - 1]? = some s) : lastNil log = s.cl.isEmpty := by
 unfold lastNil; rw [List.getLast?_eq_getElem?, h]
def chkB (p : Pl) (bound : Int) (log : List Stp) : Bool := planB p && (decide (1 ≤ log.length ∧ log.length ≤ 20000) && checkB (envP p) bound log)
set_option maxRecDepth 100000 in
set_option maxHeartbeats 16000000 in
theorem check17 {w : World} {p : Pl} {bound : Int} {LA : Option Addr} {ln lc : Nat} {log : List Stp} {t : Bool} (hp : PlanAt w p) (hl : LgRd w LA ln lc log) (hsz : ∀ s ∈ log, s.cl.length ≤ 1000) (ht : chkB p bound log = t) :
  Calls Tryz.prog 17 #[planV p, .int .i64 bound, .slice LA ln lc] w fun e w' => e = .returned (.bool t) ∧ Grew w w' := by
 have HP := Lib.hid hp
 have HL := Lib.hid hl
 have HSZ := Lib.hid hsz
 have HLN : Hid (log.length = ln) := hl.len
 have ln9 := hl.le
 have HT : Hid ((planB p && (decide (1 ≤ ln ∧ ln ≤ 20000) && checkB (envP p) bound log)) = t) := by unfold Hid; rw [← HLN.out]; exact ht
 clear hp hl hsz ht
 show Calls Tryz.prog 17 #[.agg #[.string p.nm, .int .i64 p.zb, .slice p.C p.cn p.cc, .slice p.D p.dn p.dc, .slice p.W p.wn p.wc, .int .i64 p.lm.rest, .int .i64 p.lm.week, .int .i64 p.lm.nf, .int .i64 p.lm.nt, .int .i64 p.lm.mn], .int .i64 bound, .slice LA ln lc] w _
 obtain ⟨w1, hw1⟩ : ∃ y, y = w.alloc (.cells #[.string p.nm, .int .i64 p.zb, .slice p.C p.cn p.cc, .slice p.D p.dn p.dc, .slice p.W p.wn p.wc, .int .i64 p.lm.rest, .int .i64 p.lm.week, .int .i64 p.lm.nf, .int .i64 p.lm.nt, .int .i64 p.lm.mn] 32) := ⟨_, rfl⟩
 obtain ⟨tb, htb⟩ : ∃ z, z = w.heap.size := ⟨_, rfl⟩
 have g1 : Grew w w1 := by rw [hw1]; exact (Grew.refl w).alloc _
 have X1 : Hid (Blk w1 tb 32 (planC p)) := by unfold Hid; rw [hw1, htb]; exact Blk.new w 32 (planC p)
 go_enter Tryz.func17, Tryz.ntmps17
 go_upto_region 1 with (fail)
 rw [← hw1, ← htb]
 clear hw1 htb
 have HG1 := Lib.hid g1
 have v0 : w1.cell? ⟨tb, 0, none⟩ = some (.string p.nm) := X1.out.cell rfl
 have v1 : w1.cell? ⟨tb, 1, none⟩ = some (.int .i64 p.zb) := X1.out.cell rfl
 have v2 : w1.cell? ⟨tb, 2, none⟩ = some (.slice p.C p.cn p.cc) := X1.out.cell rfl
 have v3 : w1.cell? ⟨tb, 3, none⟩ = some (.slice p.D p.dn p.dc) := X1.out.cell rfl
 have v4 : w1.cell? ⟨tb, 4, none⟩ = some (.slice p.W p.wn p.wc) := X1.out.cell rfl
 have v5 : w1.cell? ⟨tb, 5, none⟩ = some (.int .i64 p.lm.rest) := X1.out.cell rfl
 have v6 : w1.cell? ⟨tb, 6, none⟩ = some (.int .i64 p.lm.week) := X1.out.cell rfl
 have v7 : w1.cell? ⟨tb, 7, none⟩ = some (.int .i64 p.lm.nf) := X1.out.cell rfl
 have v8 : w1.cell? ⟨tb, 8, none⟩ = some (.int .i64 p.lm.nt) := X1.out.cell rfl
 have v9 : w1.cell? ⟨tb, 9, none⟩ = some (.int .i64 p.lm.mn) := X1.out.cell rfl
 clear g1
 go_wp2_with fail
 refine (newPlan40 p w1 (HP.out.grew HG1.out)).mono ?_
 intro r w2 hr
 clear v0 v1 v2 v3 v4 v5 v6 v7 v8 v9
 rcases hr with ⟨hok, M, N, ps, rfl, hfa, g2⟩ | ⟨hok, rfl, g2⟩
 ·have HG := Lib.hid (HG1.out.trans g2)
  have HFA := Lib.hid hfa
  have HOK := Lib.hid hok
  obtain ⟨ch, hch⟩ : ∃ z, cheapest (envP p) p.wn = z := ⟨_, rfl⟩
  have HCH := Lib.hid hch
  rw [hch, show (npC p M N ch).toArray = #[.string p.nm, .int .i64 p.zb, .slice p.C p.cn p.cc, .slice p.D p.dn p.dc, .slice p.W p.wn p.wc, .int .i64 p.lm.rest, .int .i64 p.lm.week, .int .i64 p.lm.nf, .int .i64 p.lm.nt, .int .i64 p.lm.mn, .slice M.A M.n M.c, .slice N.A N.n N.c, .int .i64 ch] from rfl]
  clear g2 hfa hok hch
  obtain ⟨w3, hw3⟩ : ∃ y, y = w2.alloc (.cells #[.string p.nm, .int .i64 p.zb, .slice p.C p.cn p.cc, .slice p.D p.dn p.dc, .slice p.W p.wn p.wc, .int .i64 p.lm.rest, .int .i64 p.lm.week, .int .i64 p.lm.nf, .int .i64 p.lm.nt, .int .i64 p.lm.mn, .slice M.A M.n M.c, .slice N.A N.n N.c, .int .i64 ch] 99) := ⟨_, rfl⟩
  obtain ⟨fb, hfb⟩ : ∃ z, z = w2.heap.size := ⟨_, rfl⟩
  have g3 : Grew w2 w3 := by rw [hw3]; exact (Grew.refl w2).alloc _
  have HFB : Hid (Blk w3 fb 99 (npC p M N ch)) := by unfold Hid; rw [hw3, hfb]; exact Blk.new w2 99 (npC p M N ch)
  go_upto_region 2 with (fail)
  rw [← hw3, ← hfb]
  clear hw3 hfb
  have HG3 := Lib.hid (HG.out.trans g3)
  have g3' := Lib.hid g3
  clear g3
  by_cases h1 : ln < 1
  ·have r1 : decide ((ln : Int) < 1) = true := decide_eq_true (by omega)
   have r1' : decide (ln < 1) = true := decide_eq_true h1
   have r1'' : (ln == 0) = true := by simp; omega
   have HF : Hid (false = t) := by unfold Hid; rw [← HT.out, decide_eq_false (show ¬ (1 ≤ ln ∧ ln ≤ 20000) by omega), Bool.false_and, Bool.and_false]
   have HG := HG3
   clear h1
   go_wp2
   go_ret
   exact ⟨congrArg (fun b => Ending.returned (Value.bool b)) HF.out, HG.out⟩
  ·have r1 : decide ((ln : Int) < 1) = false := decide_eq_false (by omega)
   have r1' : decide (ln < 1) = false := decide_eq_false h1
   have r1'' : (ln == 0) = false := by simp; omega
   by_cases h2 : ln ≤ 20000
   ·have r2 : decide ((ln : Int) > 20000) = false := decide_eq_false (by omega)
    have r2' : decide ((20000 : Int) < (ln : Int)) = false := decide_eq_false (by omega)
    have r2'' : decide (20000 < ln) = false := decide_eq_false (by omega)
    have HTR : Hid (restB p bound log 0 = t) := by
     unfold Hid
     rw [restB_all, ← HT.out, HOK.out, decide_eq_true (show 1 ≤ ln ∧ ln ≤ 20000 by omega), Bool.true_and, Bool.true_and]
    have u0 : w3.cell? ⟨fb, 0, none⟩ = some (.string p.nm) := HFB.out.cell rfl
    have u1 : w3.cell? ⟨fb, 1, none⟩ = some (.int .i64 p.zb) := HFB.out.cell rfl
    have u2 : w3.cell? ⟨fb, 2, none⟩ = some (.slice p.C p.cn p.cc) := HFB.out.cell rfl
    have u3 : w3.cell? ⟨fb, 3, none⟩ = some (.slice p.D p.dn p.dc) := HFB.out.cell rfl
    have u4 : w3.cell? ⟨fb, 4, none⟩ = some (.slice p.W p.wn p.wc) := HFB.out.cell rfl
    have u5 : w3.cell? ⟨fb, 5, none⟩ = some (.int .i64 p.lm.rest) := HFB.out.cell rfl
    have u6 : w3.cell? ⟨fb, 6, none⟩ = some (.int .i64 p.lm.week) := HFB.out.cell rfl
    have u7 : w3.cell? ⟨fb, 7, none⟩ = some (.int .i64 p.lm.nf) := HFB.out.cell rfl
    have u8 : w3.cell? ⟨fb, 8, none⟩ = some (.int .i64 p.lm.nt) := HFB.out.cell rfl
    have u9 : w3.cell? ⟨fb, 9, none⟩ = some (.int .i64 p.lm.mn) := HFB.out.cell rfl
    have u10 : w3.cell? ⟨fb, 10, none⟩ = some (.slice M.A M.n M.c) := HFB.out.cell rfl
    have u11 : w3.cell? ⟨fb, 11, none⟩ = some (.slice N.A N.n N.c) := HFB.out.cell rfl
    have u12 : w3.cell? ⟨fb, 12, none⟩ = some (.int .i64 ch) := HFB.out.cell rfl
    obtain ⟨w4, hw4⟩ : ∃ y, y = w3.alloc (.cells #[.string p.nm, .int .i64 p.zb, .slice p.C p.cn p.cc, .slice p.D p.dn p.dc, .slice p.W p.wn p.wc, .int .i64 p.lm.rest, .int .i64 p.lm.week, .int .i64 p.lm.nf, .int .i64 p.lm.nt, .int .i64 p.lm.mn, .slice M.A M.n M.c, .slice N.A N.n N.c, .int .i64 ch, .int .i64 bound, .slice LA ln lc, .int .i64 0] 104) := ⟨_, rfl⟩
    obtain ⟨cb, hcb⟩ : ∃ z, z = w3.heap.size := ⟨_, rfl⟩
    have g4 : Grew w3 w4 := by rw [hw4]; exact (Grew.refl w3).alloc _
    have HCB : Hid (Blk w4 cb 104 (chC p M N bound LA ln lc 0)) := by unfold Hid; rw [hw4, hcb]; exact (HCH.out ▸ Blk.new w3 104 [.string p.nm, .int .i64 p.zb, .slice p.C p.cn p.cc, .slice p.D p.dn p.dc, .slice p.W p.wn p.wc, .int .i64 p.lm.rest, .int .i64 p.lm.week, .int .i64 p.lm.nf, .int .i64 p.lm.nt, .int .i64 p.lm.mn, .slice M.A M.n M.c, .slice N.A N.n N.c, .int .i64 ch, .int .i64 bound, .slice LA ln lc, .int .i64 0])
    go_upto_region 4 with (fail)
    clear r1 r1' r1'' r2 r2' r2''
    go_upto_region 5 with (fail)
    rw [← hw4, ← hcb]
    have HLE : Hid (w3.heap.size ≤ cb) := by unfold Hid; rw [hcb]; exact Nat.le_refl _
    have HF3 : Hid (FactAt w3 p M N ps) := HFA.out.grew g3'.out
    have HL3 : Hid (LgRd w3 LA ln lc log) := HL.out.grew HG3.out
    have HG4 := Lib.hid g4
    clear hw4 hcb g4 u0 u1 u2 u3 u4 u5 u6 u7 u8 u9 u10 u11 u12
    go_wp2_with fail
    go_loopw [35] (fun i y => ∃ (k : Nat) (j : Int), k ≤ ln ∧ i = .int .i64 k ∧ Hid (restB p bound log k = t) ∧ Hid (Blk y cb 104 (chC p M N bound LA ln lc j)) ∧ Hid (Grew w3 y)) (fun i _ => ln - (intOf i).toNat)
    case atStart => exact ⟨0, 0, Nat.zero_le _, rfl, HTR.out, HCB.out, HG4.out⟩
    case round =>
     clear HTR HCB HG4
     obtain ⟨k, j, hk, rfl, HZ, HC, HR⟩ := hrel
     by_cases hlt : k < ln
     ·have HZ2 : Hid ((folB p bound log k && restB p bound log (k + 1)) = t) := by unfold Hid; rw [← restB_step (by rw [HLN.out]; exact hlt)]; exact HZ.out
      obtain ⟨fb2, hfb2⟩ : ∃ z, folB p bound log k = z := ⟨_, rfl⟩
      have HFB2 := Lib.hid hfb2
      rw [hfb2] at HZ2
      have e1 : (0 : Int) ≤ (k : Int) := by omega
      have e2 : (k : Int) < (ln : Int) := by omega
      clear hfb2 HZ
      go_wp2_with fail
      refine (follows41 HF3.out HOK.out HL3.out HR.out HLE.out HC.out hlt HSZ.out).mono ?_
      rintro r w6 ⟨rfl, HB6, HG6⟩
      have HB6 := Lib.hid HB6
      have HG6 := Lib.hid HG6
      rw [HFB2.out]
      clear HC HR
      cases fb2 with
      | false =>
       have HF : Hid (false = t) := by have := HZ2.out; rw [Bool.false_and] at this; exact this
       have HG := HG3.out.trans HG6.out
       have HG := Lib.hid HG
       go_wp2
       go_ret
       exact ⟨congrArg (fun b => Ending.returned (Value.bool b)) HF.out, HG.out⟩
      | true =>
       have HZ3 : Hid (restB p bound log (k + 1) = t) := by have := HZ2.out; rw [Bool.true_and] at this; exact this
       clear HZ2
       go_wp2_with fail
       go_roundw
       case rel => exact ⟨k + 1, k, by omega, by go_num, HZ3, HB6, HG6⟩
       case measure => simp [intOf]; omega
     ·obtain rfl : ln = k := by omega
      obtain ⟨b, o, q, s, hA, hs, hrd, c0, c1, c2⟩ := (HL3.out.grew HR.out).at_ (show ln - 1 < ln by omega)
      have HE : Hid (s.cl.isEmpty = t) := by
       unfold Hid
       rw [← lastNil_at (by rw [HLN.out]; exact hs), ← restB_end, HLN.out]; exact HZ.out
      have hcl : s.cl.length = q.cl.n := hrd.cl.1
      have r1 : ((q.cl.n : Int) == 0) = t := by
       rw [← HE.out, Bool.eq_iff_iff, beq_iff_eq, List.isEmpty_iff]
       constructor
       ·intro h; exact List.eq_nil_of_length_eq_zero (by omega)
       ·intro h; rw [h] at hcl; simp at hcl; omega
      have r2 : (q.cl.n == 0) = t := by
       rw [← r1, Bool.eq_iff_iff, beq_iff_eq, beq_iff_eq]; omega
      obtain ⟨⟨QA, qn, qc⟩, qru, qfr⟩ := q
      replace c0 : wr.cell? ⟨b, o + (ln - 1) * 3, none⟩ = some (.slice QA qn qc) := c0
      simp only at r1 r2
      have m1 : IntKind.i64.wrap ((ln : Int) - 1) = ((ln - 1 : Nat) : Int) := by rw [IntWalk.i64_in _ (by omega)]; omega
      have e1 : (0 : Int) ≤ ((ln - 1 : Nat) : Int) := by omega
      have e2 : ((ln - 1 : Nat) : Int) < (ln : Int) := by omega
      subst hA
      clear hs hrd c1 c2 hcl HZ
      go_wp2
      go_ret
      exact ⟨rfl, HG3.out.trans HR.out⟩
   ·have r2 : decide ((ln : Int) > 20000) = true := decide_eq_true (by omega)
    have r2' : decide ((20000 : Int) < (ln : Int)) = true := decide_eq_true (by omega)
    have r2'' : decide (20000 < ln) = true := decide_eq_true (by omega)
    have HF : Hid (false = t) := by unfold Hid; rw [← HT.out, decide_eq_false (show ¬ (1 ≤ ln ∧ ln ≤ 20000) by omega), Bool.false_and, Bool.and_false]
    have HG := HG3
    clear h1 h2
    go_wp2
    go_ret
    exact ⟨congrArg (fun b => Ending.returned (Value.bool b)) HF.out, HG.out⟩
 ·have HG := Lib.hid (HG1.out.trans (g2.alloc (.cells zero13 99)))
  have HF : Hid (false = t) := by unfold Hid; rw [← HT.out, hok, Bool.false_and]
  clear g2 hok
  have hz13 : zero13 = #[.string ByteArray.empty, .int .i64 0, .slice none 0 0, .slice none 0 0, .slice none 0 0, .int .i64 0, .int .i64 0, .int .i64 0, .int .i64 0, .int .i64 0, .slice none 0 0, .slice none 0 0, .int .i64 0] := rfl
  rw [hz13] at HG ⊢
  clear hz13
  go_wp2
  go_ret
  exact ⟨congrArg (fun b => Ending.returned (Value.bool b)) HF.out, HG.out⟩
end Go.Proofs.YtnnbibmmofnkdaaGreat
