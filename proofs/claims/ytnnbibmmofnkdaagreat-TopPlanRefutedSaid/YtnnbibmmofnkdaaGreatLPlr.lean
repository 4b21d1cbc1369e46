/-
 TopPlanRefuted: the law, walked.
-/
import Derived.Test.YtnnbibmmofnkdaaGreatBadC
namespace Go.Proofs.YtnnbibmmofnkdaaGreat
open Go.RowKit Go.Proofs WageMem WageReg WageRec WageSpan WageTop

theorem solve_errs (E : Env) (fuel : Int) : (solve E fuel).2.2.2 = 0 ∨ (solve E fuel).2.2.2 = 171 ∨ (solve E fuel).2.2.2 = 201 := by
 unfold solve
 split
 ·exact .inr (.inr rfl)
 ·split
  ·exact .inr (.inl rfl)
  split
  ·exact .inl rfl
  split
  ·exact .inr (.inr rfl)
  ·exact .inl rfl
set_option maxRecDepth 100000 in
set_option maxHeartbeats 16000000 in
theorem law5 {w : World} {p : Pl} {NA : Option Addr} {nn nc : Nat} {ns : List Int} (hp : PlanAt w p) (hi : Ints w NA nn nc ns) (hb : ∀ x ∈ ns, in64 x) :
  Calls Tryz.prog 5 #[planV p, .slice NA nn nc] w fun e w' => e = .returned (.bool true) ∧ Grew w w' := by
 have HP := Lib.hid hp
 have HI := Lib.hid hi
 have HNB := Lib.hid hb
 have HNL : Hid (ns.length = nn) := hi.1
 have nn9 : nn ≤ 9223372036854775807 := Nat.le_trans hi.2.1 hi.2.2.1
 clear hp hi hb
 show Calls Tryz.prog 5 #[.agg #[.string p.nm, .int .i64 p.zb, .slice p.C p.cn p.cc, .slice p.D p.dn p.dc, .slice p.W p.wn p.wc, .int .i64 p.lm.rest, .int .i64 p.lm.week, .int .i64 p.lm.nf, .int .i64 p.lm.nt, .int .i64 p.lm.mn], .slice NA nn nc] w _
 obtain ⟨w1, hw1⟩ : ∃ y, y = w.alloc (.cells #[.string p.nm, .int .i64 p.zb, .slice p.C p.cn p.cc, .slice p.D p.dn p.dc, .slice p.W p.wn p.wc, .int .i64 p.lm.rest, .int .i64 p.lm.week, .int .i64 p.lm.nf, .int .i64 p.lm.nt, .int .i64 p.lm.mn] 32) := ⟨_, rfl⟩
 obtain ⟨tb, htb⟩ : ∃ z, z = w.heap.size := ⟨_, rfl⟩
 have g1 : Grew w w1 := by rw [hw1]; exact (Grew.refl w).alloc _
 have X1 : Hid (Blk w1 tb 32 (planC p)) := by unfold Hid; rw [hw1, htb]; exact Blk.new w 32 (planC p)
 have HG1 := Lib.hid g1
 clear g1
 go_enter Tryz.func5, Tryz.ntmps5
 go_upto_region 1 with (fail)
 rw [← hw1, ← htb]
 clear hw1 htb
 have v0 : w1.cell? ⟨tb, 0, none⟩ = some (.string p.nm) := X1.out.cell rfl
 have v1 : w1.cell? ⟨tb, 1, none⟩ = some (.int .i64 p.zb) := X1.out.cell rfl
 have v2 : w1.cell? ⟨tb, 2, none⟩ = some (.slice p.C p.cn p.cc) := X1.out.cell rfl
 have v3 : w1.cell? ⟨tb, 3, none⟩ = some (.slice p.D p.dn p.dc) := X1.out.cell rfl
 have v4 : w1.cell? ⟨tb, 4, none⟩ = some (.slice p.W p.wn p.wc) := X1.out.cell rfl
 have v5 : w1.cell? ⟨tb, 5, none⟩ = some (.int .i64 p.lm.rest) := X1.out.cell rfl
 have v6 : w1.cell? ⟨tb, 6, none⟩ = some (.int .i64 p.lm.week) := X1.out.cell rfl
 have v7 : w1.cell? ⟨tb, 7, none⟩ = some (.int .i64 p.lm.nf) := X1.out.cell rfl
 have v8 : w1.cell? ⟨tb, 8, none⟩ = some (.int .i64 p.lm.nt) := X1.out.cell rfl
 have v9 : w1.cell? ⟨tb, 9, none⟩ = some (.int .i64 p.lm.mn) := X1.out.cell rfl
 go_wp2_with fail
 refine (plan8 w1).mono ?_
 rintro r w2 ⟨rfl, g2⟩
 have X2 := Lib.hid (X1.out.grew g2)
 have HG2 := Lib.hid (HG1.out.trans g2)
 clear v0 v1 v2 v3 v4 v5 v6 v7 v8 v9 X1 HG1 g2
 have v0 : w2.cell? ⟨tb, 0, none⟩ = some (.string p.nm) := X2.out.cell rfl
 have v1 : w2.cell? ⟨tb, 1, none⟩ = some (.int .i64 p.zb) := X2.out.cell rfl
 have v2 : w2.cell? ⟨tb, 2, none⟩ = some (.slice p.C p.cn p.cc) := X2.out.cell rfl
 have v3 : w2.cell? ⟨tb, 3, none⟩ = some (.slice p.D p.dn p.dc) := X2.out.cell rfl
 have v4 : w2.cell? ⟨tb, 4, none⟩ = some (.slice p.W p.wn p.wc) := X2.out.cell rfl
 have v5 : w2.cell? ⟨tb, 5, none⟩ = some (.int .i64 p.lm.rest) := X2.out.cell rfl
 have v6 : w2.cell? ⟨tb, 6, none⟩ = some (.int .i64 p.lm.week) := X2.out.cell rfl
 have v7 : w2.cell? ⟨tb, 7, none⟩ = some (.int .i64 p.lm.nf) := X2.out.cell rfl
 have v8 : w2.cell? ⟨tb, 8, none⟩ = some (.int .i64 p.lm.nt) := X2.out.cell rfl
 have v9 : w2.cell? ⟨tb, 9, none⟩ = some (.int .i64 p.lm.mn) := X2.out.cell rfl
 go_wp2_with fail
 refine (tiny9 (HP.out.grew HG2.out)).mono ?_
 rintro r w3 ⟨tn, rfl, htn, g3⟩
 have X3 := Lib.hid (X2.out.grew g3)
 have HG3 := Lib.hid (HG2.out.trans g3)
 clear v0 v1 v2 v3 v4 v5 v6 v7 v8 v9 X2 HG2 g3
 have HTN := Lib.hid htn
 clear htn
 cases tn with
 | false =>
  go_wp2
  go_ret
  exact ⟨rfl, HG3.out⟩
 | true =>
  have HOK : Hid (planB p = true) := (HTN.out rfl).1
  have hd6 : p.dn ≤ 6 := (HTN.out rfl).2.1
  have hw4 : p.wn ≤ 4 := (HTN.out rfl).2.2.1
  clear HTN
  have v0 : w3.cell? ⟨tb, 0, none⟩ = some (.string p.nm) := X3.out.cell rfl
  have v1 : w3.cell? ⟨tb, 1, none⟩ = some (.int .i64 p.zb) := X3.out.cell rfl
  have v2 : w3.cell? ⟨tb, 2, none⟩ = some (.slice p.C p.cn p.cc) := X3.out.cell rfl
  have v3 : w3.cell? ⟨tb, 3, none⟩ = some (.slice p.D p.dn p.dc) := X3.out.cell rfl
  have v4 : w3.cell? ⟨tb, 4, none⟩ = some (.slice p.W p.wn p.wc) := X3.out.cell rfl
  have v5 : w3.cell? ⟨tb, 5, none⟩ = some (.int .i64 p.lm.rest) := X3.out.cell rfl
  have v6 : w3.cell? ⟨tb, 6, none⟩ = some (.int .i64 p.lm.week) := X3.out.cell rfl
  have v7 : w3.cell? ⟨tb, 7, none⟩ = some (.int .i64 p.lm.nf) := X3.out.cell rfl
  have v8 : w3.cell? ⟨tb, 8, none⟩ = some (.int .i64 p.lm.nt) := X3.out.cell rfl
  have v9 : w3.cell? ⟨tb, 9, none⟩ = some (.int .i64 p.lm.mn) := X3.out.cell rfl
  by_cases hd0 : p.dn = 0
  ·have r1 : (p.dn == 0) = true := by simpa using hd0
   have r2 : ((p.dn : Int) == 0) = true := by simp; omega
   go_wp2
   go_ret
   exact ⟨rfl, HG3.out⟩
  ·have r1 : (p.dn == 0) = false := by simpa using hd0
   have r2 : ((p.dn : Int) == 0) = false := by simp; omega
   by_cases hw0 : p.wn = 0
   ·have r3 : (p.wn == 0) = true := by simpa using hw0
    have r4 : ((p.wn : Int) == 0) = true := by simp; omega
    go_wp2
    go_ret
    exact ⟨rfl, HG3.out⟩
   ·have r3 : (p.wn == 0) = false := by simpa using hw0
    have r4 : ((p.wn : Int) == 0) = false := by simp; omega
    have hw0 : 0 < p.wn := by omega
    clear v0 v1 v2 v3 v4 v5 v6 v7 v8 v9
    have v0 : w3.cell? ⟨tb, 0, none⟩ = some (.string p.nm) := X3.out.cell rfl
    have v1 : w3.cell? ⟨tb, 1, none⟩ = some (.int .i64 p.zb) := X3.out.cell rfl
    have v2 : w3.cell? ⟨tb, 2, none⟩ = some (.slice p.C p.cn p.cc) := X3.out.cell rfl
    have v3 : w3.cell? ⟨tb, 3, none⟩ = some (.slice p.D p.dn p.dc) := X3.out.cell rfl
    have v4 : w3.cell? ⟨tb, 4, none⟩ = some (.slice p.W p.wn p.wc) := X3.out.cell rfl
    have v5 : w3.cell? ⟨tb, 5, none⟩ = some (.int .i64 p.lm.rest) := X3.out.cell rfl
    have v6 : w3.cell? ⟨tb, 6, none⟩ = some (.int .i64 p.lm.week) := X3.out.cell rfl
    have v7 : w3.cell? ⟨tb, 7, none⟩ = some (.int .i64 p.lm.nf) := X3.out.cell rfl
    have v8 : w3.cell? ⟨tb, 8, none⟩ = some (.int .i64 p.lm.nt) := X3.out.cell rfl
    have v9 : w3.cell? ⟨tb, 9, none⟩ = some (.int .i64 p.lm.mn) := X3.out.cell rfl
    go_wp2_with fail
    refine (solve13 p 4000 w3 (HP.out.grew HG3.out)).mono ?_
    rintro r w4 ⟨BA, bc, GA, gc, rfl, hown, hlog, g4⟩
    have X4 := Lib.hid (X3.out.grew g4)
    have HG4 := Lib.hid (HG3.out.trans g4)
    clear v0 v1 v2 v3 v4 v5 v6 v7 v8 v9 X3 HG3 g4 r1 r2 r3 r4
    have hs : solF p 4000 = solve (envP p) 4000 := by unfold solF; rw [if_pos ⟨HOK.out, by decide, by decide⟩]
    have HER := Lib.hid (solve_errs (envP p) 4000)
    rw [hs] at hown hlog ⊢
    obtain ⟨⟨l, c, lg, e⟩, hs1⟩ : ∃ s, solve (envP p) 4000 = s := ⟨_, rfl⟩
    rw [hs1] at hown hlog HER ⊢
    simp only at hown hlog HER ⊢
    clear hs
    by_cases he : e = 0
    ·subst he
     have HEO := Lib.hid (env_ok HP.out HOK.out)
     have HBE : Hid (Best (envP p) l c lg) := solve_best HEO.out (show 0 < p.dn by omega) hs1
     have HSM : Hid (∀ s ∈ lg, s.cl.length ≤ 1000) := fun s hs => Nat.le_trans (solve_small (m := 24) (show p.dn ≤ 24 by omega) (show p.wn ≤ 24 by omega) hs1 s hs) (by decide)
     have HI4 : Hid (Ints w4 BA l.length bc l) := Ints.own rfl hown
     have HLG4 : Hid (LgRd w4 GA lg.length gc lg) := LgRd.of_log hlog rfl
     have hcb := costF_bd (env_bd HP.out HOK.out) 0 l
     rw [HBE.out.cost, HBE.out.full.1] at hcb
     have hcb2 : c ≤ (p.dn : Int) * 1440000000 := hcb.2
     have hcb1 := hcb.1
     have HCK1 : Hid (chkB p c lg = true) := by unfold Hid chkB; rw [HOK.out, HBE.out.check, decide_eq_true HBE.out.len]; rfl
     have HCK2 : Hid (chkB p (c + 1) lg = false) := by unfold Hid chkB; rw [HBE.out.tight, Bool.and_false, Bool.and_false]
     have mc : IntKind.i64.wrap (c + 1) = c + 1 := IntWalk.i64_in _ (by omega)
     obtain ⟨ll, hll⟩ : ∃ n, l.length = n := ⟨_, rfl⟩
     obtain ⟨gl, hgl⟩ : ∃ n, lg.length = n := ⟨_, rfl⟩
     rw [hll] at HI4 ⊢
     rw [hgl] at HLG4 ⊢
     clear hown hlog hs1 hcb HER hll hgl
     have v0 : w4.cell? ⟨tb, 0, none⟩ = some (.string p.nm) := X4.out.cell rfl
     have v1 : w4.cell? ⟨tb, 1, none⟩ = some (.int .i64 p.zb) := X4.out.cell rfl
     have v2 : w4.cell? ⟨tb, 2, none⟩ = some (.slice p.C p.cn p.cc) := X4.out.cell rfl
     have v3 : w4.cell? ⟨tb, 3, none⟩ = some (.slice p.D p.dn p.dc) := X4.out.cell rfl
     have v4 : w4.cell? ⟨tb, 4, none⟩ = some (.slice p.W p.wn p.wc) := X4.out.cell rfl
     have v5 : w4.cell? ⟨tb, 5, none⟩ = some (.int .i64 p.lm.rest) := X4.out.cell rfl
     have v6 : w4.cell? ⟨tb, 6, none⟩ = some (.int .i64 p.lm.week) := X4.out.cell rfl
     have v7 : w4.cell? ⟨tb, 7, none⟩ = some (.int .i64 p.lm.nf) := X4.out.cell rfl
     have v8 : w4.cell? ⟨tb, 8, none⟩ = some (.int .i64 p.lm.nt) := X4.out.cell rfl
     have v9 : w4.cell? ⟨tb, 9, none⟩ = some (.int .i64 p.lm.mn) := X4.out.cell rfl
     go_wp2_with fail
     refine (bad18 (HP.out.grew HG4.out) HOK.out HI4.out (ros_full HBE.out.full)).mono ?_
     rintro r w5 ⟨VA, vm, vc, rfl, hvz, g5⟩
     have X5 := Lib.hid (X4.out.grew g5)
     have HG5 := Lib.hid (HG4.out.trans g5)
     clear v0 v1 v2 v3 v4 v5 v6 v7 v8 v9 X4
     have hvm : vm = 0 := hvz.2 (violated_of (viol_nil p) HBE.out.clean)
     subst hvm
     have HI5 := Lib.hid (HI4.out.grew g5)
     have HLG5 := Lib.hid (HLG4.out.grew g5)
     clear hvz HI4 HLG4 g5 HG4
     have v0 : w5.cell? ⟨tb, 0, none⟩ = some (.string p.nm) := X5.out.cell rfl
     have v1 : w5.cell? ⟨tb, 1, none⟩ = some (.int .i64 p.zb) := X5.out.cell rfl
     have v2 : w5.cell? ⟨tb, 2, none⟩ = some (.slice p.C p.cn p.cc) := X5.out.cell rfl
     have v3 : w5.cell? ⟨tb, 3, none⟩ = some (.slice p.D p.dn p.dc) := X5.out.cell rfl
     have v4 : w5.cell? ⟨tb, 4, none⟩ = some (.slice p.W p.wn p.wc) := X5.out.cell rfl
     have v5 : w5.cell? ⟨tb, 5, none⟩ = some (.int .i64 p.lm.rest) := X5.out.cell rfl
     have v6 : w5.cell? ⟨tb, 6, none⟩ = some (.int .i64 p.lm.week) := X5.out.cell rfl
     have v7 : w5.cell? ⟨tb, 7, none⟩ = some (.int .i64 p.lm.nf) := X5.out.cell rfl
     have v8 : w5.cell? ⟨tb, 8, none⟩ = some (.int .i64 p.lm.nt) := X5.out.cell rfl
     have v9 : w5.cell? ⟨tb, 9, none⟩ = some (.int .i64 p.lm.mn) := X5.out.cell rfl
     go_wp2_with fail
     refine (cost19 (HP.out.grew HG5.out) HOK.out HI5.out HBE.out.full).mono ?_
     rintro r w6 ⟨rfl, g6⟩
     have X6 := Lib.hid (X5.out.grew g6)
     have HG6 := Lib.hid (HG5.out.trans g6)
     clear v0 v1 v2 v3 v4 v5 v6 v7 v8 v9 X5
     have HLG6 := Lib.hid (HLG5.out.grew g6)
     rw [HBE.out.cost]
     clear HI5 HLG5 g6 HG5
     have v0 : w6.cell? ⟨tb, 0, none⟩ = some (.string p.nm) := X6.out.cell rfl
     have v1 : w6.cell? ⟨tb, 1, none⟩ = some (.int .i64 p.zb) := X6.out.cell rfl
     have v2 : w6.cell? ⟨tb, 2, none⟩ = some (.slice p.C p.cn p.cc) := X6.out.cell rfl
     have v3 : w6.cell? ⟨tb, 3, none⟩ = some (.slice p.D p.dn p.dc) := X6.out.cell rfl
     have v4 : w6.cell? ⟨tb, 4, none⟩ = some (.slice p.W p.wn p.wc) := X6.out.cell rfl
     have v5 : w6.cell? ⟨tb, 5, none⟩ = some (.int .i64 p.lm.rest) := X6.out.cell rfl
     have v6 : w6.cell? ⟨tb, 6, none⟩ = some (.int .i64 p.lm.week) := X6.out.cell rfl
     have v7 : w6.cell? ⟨tb, 7, none⟩ = some (.int .i64 p.lm.nf) := X6.out.cell rfl
     have v8 : w6.cell? ⟨tb, 8, none⟩ = some (.int .i64 p.lm.nt) := X6.out.cell rfl
     have v9 : w6.cell? ⟨tb, 9, none⟩ = some (.int .i64 p.lm.mn) := X6.out.cell rfl
     go_wp2_with fail
     refine (check17 (HP.out.grew HG6.out) HLG6.out HSM.out HCK1.out).mono ?_
     rintro r w7 ⟨rfl, g7⟩
     have X7 := Lib.hid (X6.out.grew g7)
     have HG7 := Lib.hid (HG6.out.trans g7)
     clear v0 v1 v2 v3 v4 v5 v6 v7 v8 v9 X6
     have HLG7 := Lib.hid (HLG6.out.grew g7)
     clear HLG6 g7 HG6
     have v0 : w7.cell? ⟨tb, 0, none⟩ = some (.string p.nm) := X7.out.cell rfl
     have v1 : w7.cell? ⟨tb, 1, none⟩ = some (.int .i64 p.zb) := X7.out.cell rfl
     have v2 : w7.cell? ⟨tb, 2, none⟩ = some (.slice p.C p.cn p.cc) := X7.out.cell rfl
     have v3 : w7.cell? ⟨tb, 3, none⟩ = some (.slice p.D p.dn p.dc) := X7.out.cell rfl
     have v4 : w7.cell? ⟨tb, 4, none⟩ = some (.slice p.W p.wn p.wc) := X7.out.cell rfl
     have v5 : w7.cell? ⟨tb, 5, none⟩ = some (.int .i64 p.lm.rest) := X7.out.cell rfl
     have v6 : w7.cell? ⟨tb, 6, none⟩ = some (.int .i64 p.lm.week) := X7.out.cell rfl
     have v7 : w7.cell? ⟨tb, 7, none⟩ = some (.int .i64 p.lm.nf) := X7.out.cell rfl
     have v8 : w7.cell? ⟨tb, 8, none⟩ = some (.int .i64 p.lm.nt) := X7.out.cell rfl
     have v9 : w7.cell? ⟨tb, 9, none⟩ = some (.int .i64 p.lm.mn) := X7.out.cell rfl
     go_wp2_with fail
     refine (check17 (HP.out.grew HG7.out) HLG7.out HSM.out HCK2.out).mono ?_
     rintro r w8 ⟨rfl, g8⟩
     have X8 := Lib.hid (X7.out.grew g8)
     have HG8 := Lib.hid (HG7.out.trans g8)
     clear v0 v1 v2 v3 v4 v5 v6 v7 v8 v9 X7
     clear HLG7 g8 HG7 mc HCK1 HCK2 HSM
     go_wp2_with fail
     go_loopw [5, 15] (fun u i y => ∃ k : Nat, k ≤ nn ∧ k ≤ 10 ∧ u = .bool true ∧ i = .int .i64 k ∧ Hid (Grew w8 y)) (fun _ i _ => nn - (intOf i).toNat)
     case atStart => exact ⟨0, Nat.zero_le _, by omega, rfl, rfl, Grew.refl _⟩
     case round =>
      obtain ⟨k, hk, hk10, rfl, rfl, HY⟩ := hrel
      have HGr := Lib.hid (HG8.out.trans HY.out)
      have Xr := Lib.hid (X8.out.grew HY.out)
      by_cases hlt : k < nn
      ·by_cases ht : k < 10
       ·have e10 : (k : Int) < 10 := by omega
        skip
        obtain ⟨b, o, hA, hcc⟩ := (HI.out.grew HGr.out).at_ (show 0 < nn by omega)
        obtain ⟨x, hx⟩ : ∃ x, ns[k]? = some x := ⟨_, List.getElem?_eq_getElem (by rw [HNL.out]; exact hlt)⟩
        have c0 := hcc k _ hx
        have HXB := Lib.hid (HNB.out x (List.mem_of_getElem? hx))
        have e1 : (0 : Int) ≤ (k : Int) := by omega
        have e2 : (k : Int) < (nn : Int) := by omega
        have v0 : wr.cell? ⟨tb, 0, none⟩ = some (.string p.nm) := Xr.out.cell rfl
        have v1 : wr.cell? ⟨tb, 1, none⟩ = some (.int .i64 p.zb) := Xr.out.cell rfl
        have v2 : wr.cell? ⟨tb, 2, none⟩ = some (.slice p.C p.cn p.cc) := Xr.out.cell rfl
        have v3 : wr.cell? ⟨tb, 3, none⟩ = some (.slice p.D p.dn p.dc) := Xr.out.cell rfl
        have v4 : wr.cell? ⟨tb, 4, none⟩ = some (.slice p.W p.wn p.wc) := Xr.out.cell rfl
        have v5 : wr.cell? ⟨tb, 5, none⟩ = some (.int .i64 p.lm.rest) := Xr.out.cell rfl
        have v6 : wr.cell? ⟨tb, 6, none⟩ = some (.int .i64 p.lm.week) := Xr.out.cell rfl
        have v7 : wr.cell? ⟨tb, 7, none⟩ = some (.int .i64 p.lm.nf) := Xr.out.cell rfl
        have v8 : wr.cell? ⟨tb, 8, none⟩ = some (.int .i64 p.lm.nt) := Xr.out.cell rfl
        have v9 : wr.cell? ⟨tb, 9, none⟩ = some (.int .i64 p.lm.mn) := Xr.out.cell rfl
        have hA2 : ∀ w', Grew wr.drew w' → (w'.cell? ⟨tb, 0, none⟩ = some (.string p.nm) ∧ w'.cell? ⟨tb, 1, none⟩ = some (.int .i64 p.zb) ∧ w'.cell? ⟨tb, 2, none⟩ = some (.slice p.C p.cn p.cc) ∧ w'.cell? ⟨tb, 3, none⟩ = some (.slice p.D p.dn p.dc) ∧ w'.cell? ⟨tb, 4, none⟩ = some (.slice p.W p.wn p.wc) ∧ w'.cell? ⟨tb, 5, none⟩ = some (.int .i64 p.lm.rest) ∧ w'.cell? ⟨tb, 6, none⟩ = some (.int .i64 p.lm.week) ∧ w'.cell? ⟨tb, 7, none⟩ = some (.int .i64 p.lm.nf) ∧ w'.cell? ⟨tb, 8, none⟩ = some (.int .i64 p.lm.nt) ∧ w'.cell? ⟨tb, 9, none⟩ = some (.int .i64 p.lm.mn)) ∧ w'.cell? ⟨b, o + k, none⟩ = some (.int .i64 x) := fun w' g' => by
         have gg := (Grew.refl wr).drew.trans g'
         exact ⟨⟨gg.cell v0, gg.cell v1, gg.cell v2, gg.cell v3, gg.cell v4, gg.cell v5, gg.cell v6, gg.cell v7, gg.cell v8, gg.cell v9⟩, gg.cell c0⟩
        have HA := Lib.hid hA2
        clear v0 v1 v2 v3 v4 v5 v6 v7 v8 v9 c0 hcc hx hA2
        subst hA
        go_upto_region 15 with (fail)
        refine wp_region_G (by kernel_rfl) Grew.refl 10 ?_
        refine wpAnyG_takes Grew.refl (fun _ _ _ => Grew.trans) (fun _ _ _ _ _ h => h) [0, 1, 2, 3, 4, 5] (fuel' := 4) (by kernel_rfl) (by kernel_rfl) (by simp only [pickOps, List.getElem?_toArray, List.getElem?_cons_zero, List.getElem?_cons_succ]; rfl) ?_
        repeat (first
         | (refine TakeAll.pure (v := ?_) (by rfl) ?_ ?_; rotate_left; (intro w' g'; obtain ⟨⟨q_0, q_1, q_2, q_3, q_4, q_5, q_6, q_7, q_8, q_9⟩, q_10⟩ := HA.out w' g'; go_simp; first | done | with_reducible rfl); (simp only [Act.put, List.setIfInBounds_toArray, List.set_cons_zero, List.set_cons_succ]))
         | (refine TakeAll.skip (by rfl) ?_; (simp only [Act.put, List.setIfInBounds_toArray, List.set_cons_zero, List.set_cons_succ])))
        refine TakeAll.nil ?_
        clear HA
        refine wpAnyG_stepW (i := 6) (by kernel_rfl) (fuel' := 3) (by kernel_rfl) (by simp only [pickOps, List.getElem?_toArray, List.getElem?_cons_zero, List.getElem?_cons_succ]; rfl) (by rfl) ?_
        intro wA gA K hK
        refine wp_call 21 _ (by go_simp; first | done | rfl) ?_
        refine (count21 (w := wA) (p := p) (by omega) hw4).mono ?_
        rintro r wB ⟨N, rfl, ⟨_, hN2, hN3⟩, gB⟩
        have hN3 := hN3 hw0
        refine ⟨_, rfl, hK _ _ gB ?_⟩
        clear hK K
        simp only [Act.put, List.setIfInBounds_toArray, List.set_cons_zero, List.set_cons_succ]
        refine wpAnyG_stepW (i := 7) (by kernel_rfl) (fuel' := 2) (by kernel_rfl) (by simp only [pickOps, List.getElem?_toArray, List.getElem?_cons_zero, List.getElem?_cons_succ]; rfl) (by rfl) ?_
        intro wC gC K hK
        refine wp_call 10 _ (by go_simp; first | done | rfl) ?_
        refine (pick10 HXB.out hN3 (by omega)).mono ?_
        rintro r wD ⟨rfl, gD⟩
        have hpb := pickF_bd (c := x) hN3
        obtain ⟨z, hz⟩ : ∃ z, pickF x N = z := ⟨_, rfl⟩
        rw [hz] at hpb ⊢
        refine ⟨_, rfl, hK _ _ gD ?_⟩
        clear hK K hz
        simp only [Act.put, List.setIfInBounds_toArray, List.set_cons_zero, List.set_cons_succ]
        refine wpAnyG_stepW (i := 8) (by kernel_rfl) (fuel' := 1) (by kernel_rfl) (by simp only [pickOps, List.getElem?_toArray, List.getElem?_cons_zero, List.getElem?_cons_succ]; rfl) (by rfl) ?_
        intro wE gE K hK
        refine wp_call 20 _ (by go_simp; first | done | rfl) ?_
        refine (numbered20 (w := wE) (p := p) (n := z) (by omega) hw0 (by omega) (by omega)).mono ?_
        rintro r wF ⟨MA, mc, ml, rfl, hmi, hmf, gF⟩
        have HMI := Lib.hid hmi
        have HMF := Lib.hid hmf
        refine ⟨_, rfl, hK _ _ gF ?_⟩
        clear hK K hmi hmf hpb hN2 hN3
        simp only [Act.put, List.setIfInBounds_toArray, List.set_cons_zero, List.set_cons_succ]
        refine wpAnyG_takes Grew.refl (fun _ _ _ => Grew.trans) (fun _ _ _ _ _ h => h) [9] (fuel' := 0) (by kernel_rfl) (by kernel_rfl) (by simp only [pickOps, List.getElem?_toArray, List.getElem?_cons_zero, List.getElem?_cons_succ]; rfl) ?_
        repeat (first
         | (refine TakeAll.pure (v := ?_) (by rfl) ?_ ?_; rotate_left; (intro w' g'; go_simp; first | done | with_reducible rfl); (simp only [Act.put, List.setIfInBounds_toArray, List.set_cons_zero, List.set_cons_succ]))
         | (refine TakeAll.skip (by rfl) ?_; (simp only [Act.put, List.setIfInBounds_toArray, List.set_cons_zero, List.set_cons_succ])))
        refine TakeAll.nil ?_
        refine wpAnyG_done (by kernel_rfl) ?_ _
        intro wG gG
        have gAll := ((((((((Grew.refl wr).drew.trans gA).trans gB).trans gC).trans gD).trans gE).trans gF).trans gG)
        have HGG := Lib.hid (HGr.out.trans gAll)
        have HYG := Lib.hid (HY.out.trans gAll)
        have XG := Lib.hid (Xr.out.grew gAll)
        have HMG := Lib.hid (HMI.out.grew gG)
        clear gA gB gC gD gE gF gG gAll HMI
        have v0 : wG.cell? ⟨tb, 0, none⟩ = some (.string p.nm) := XG.out.cell rfl
        have v1 : wG.cell? ⟨tb, 1, none⟩ = some (.int .i64 p.zb) := XG.out.cell rfl
        have v2 : wG.cell? ⟨tb, 2, none⟩ = some (.slice p.C p.cn p.cc) := XG.out.cell rfl
        have v3 : wG.cell? ⟨tb, 3, none⟩ = some (.slice p.D p.dn p.dc) := XG.out.cell rfl
        have v4 : wG.cell? ⟨tb, 4, none⟩ = some (.slice p.W p.wn p.wc) := XG.out.cell rfl
        have v5 : wG.cell? ⟨tb, 5, none⟩ = some (.int .i64 p.lm.rest) := XG.out.cell rfl
        have v6 : wG.cell? ⟨tb, 6, none⟩ = some (.int .i64 p.lm.week) := XG.out.cell rfl
        have v7 : wG.cell? ⟨tb, 7, none⟩ = some (.int .i64 p.lm.nf) := XG.out.cell rfl
        have v8 : wG.cell? ⟨tb, 8, none⟩ = some (.int .i64 p.lm.nt) := XG.out.cell rfl
        have v9 : wG.cell? ⟨tb, 9, none⟩ = some (.int .i64 p.lm.mn) := XG.out.cell rfl
        go_wp2_with fail
        refine (bad18 (HP.out.grew HGG.out) HOK.out HMG.out (ros_full HMF.out)).mono ?_
        rintro r wH ⟨VA, vm, vc, rfl, hvz, gH⟩
        have HVZ := Lib.hid hvz
        have XH := Lib.hid (XG.out.grew gH)
        have HGH := Lib.hid (HGG.out.trans gH)
        have HYH := Lib.hid (HYG.out.trans gH)
        have HMH := Lib.hid (HMG.out.grew gH)
        clear v0 v1 v2 v3 v4 v5 v6 v7 v8 v9 XG gH hvz
        have v0 : wH.cell? ⟨tb, 0, none⟩ = some (.string p.nm) := XH.out.cell rfl
        have v1 : wH.cell? ⟨tb, 1, none⟩ = some (.int .i64 p.zb) := XH.out.cell rfl
        have v2 : wH.cell? ⟨tb, 2, none⟩ = some (.slice p.C p.cn p.cc) := XH.out.cell rfl
        have v3 : wH.cell? ⟨tb, 3, none⟩ = some (.slice p.D p.dn p.dc) := XH.out.cell rfl
        have v4 : wH.cell? ⟨tb, 4, none⟩ = some (.slice p.W p.wn p.wc) := XH.out.cell rfl
        have v5 : wH.cell? ⟨tb, 5, none⟩ = some (.int .i64 p.lm.rest) := XH.out.cell rfl
        have v6 : wH.cell? ⟨tb, 6, none⟩ = some (.int .i64 p.lm.week) := XH.out.cell rfl
        have v7 : wH.cell? ⟨tb, 7, none⟩ = some (.int .i64 p.lm.nf) := XH.out.cell rfl
        have v8 : wH.cell? ⟨tb, 8, none⟩ = some (.int .i64 p.lm.nt) := XH.out.cell rfl
        have v9 : wH.cell? ⟨tb, 9, none⟩ = some (.int .i64 p.lm.mn) := XH.out.cell rfl
        go_wp2_with fail
        refine (cost19 (HP.out.grew HGH.out) HOK.out HMH.out HMF.out).mono ?_
        rintro r wI ⟨rfl, gI⟩
        have HYI := Lib.hid (HYH.out.trans gI)
        have HLE : Hid (vm = 0 → c ≤ costF (envP p) 0 ml) := fun h => by
         have hv := HVZ.out.1 h
         exact HBE.out.least _ HMF.out (cleanAll_of HEO.out (by rw [HMF.out.1]; exact Nat.le_refl _) HMF.out.2 hv)
        obtain ⟨n9, hn9⟩ : ∃ z, costF (envP p) 0 ml = z := ⟨_, rfl⟩
        rw [hn9] at HLE ⊢
        clear v0 v1 v2 v3 v4 v5 v6 v7 v8 v9 XH gI hn9
        by_cases h6 : vm = 0
        ·have q1 : decide ((vm : Int) > 0) = false := decide_eq_false (by omega)
         have q2 : decide ((0 : Int) < (vm : Int)) = false := decide_eq_false (by omega)
         have q3 : decide (0 < vm) = false := decide_eq_false (by omega)
         have q4 : decide (n9 ≥ c) = true := decide_eq_true (HLE.out h6)
         have q5 : decide (c ≤ n9) = true := decide_eq_true (HLE.out h6)
         clear h6 HLE HVZ
         go_wp2_with fail
         go_roundw
         case rel => exact ⟨k + 1, by omega, by omega, rfl, by go_num, HYI.out⟩
         case measure => simp [intOf]; omega
        ·have q1 : decide ((vm : Int) > 0) = true := decide_eq_true (by omega)
         have q2 : decide ((0 : Int) < (vm : Int)) = true := decide_eq_true (by omega)
         have q3 : decide (0 < vm) = true := decide_eq_true (by omega)
         clear h6 HLE HVZ
         go_wp2_with fail
         go_roundw
         case rel => exact ⟨k + 1, by omega, by omega, rfl, by go_num, HYI.out⟩
         case measure => simp [intOf]; omega
       ·have t1 : decide ((k : Int) < 10) = false := decide_eq_false (by omega)
        have t2 : decide (k < 10) = false := decide_eq_false ht
        clear ht
        go_wp2
        go_ret
        exact ⟨rfl, HGr.out⟩
      ·obtain rfl : nn = k := by omega
       go_wp2
       go_ret
       exact ⟨rfl, HGr.out⟩
    ·have q1 : (e != 0) = true := by simpa using he
     have q2 : (e == 0) = false := by simpa using he
     have HE2 : Hid (e = 171 ∨ e = 201) := by rcases HER.out with h | h; exact absurd h he; exact h
     clear hown hlog hs1 he HER
     by_cases h3 : e = 171
     ·have q3 : (e == 171) = true := by simpa using h3
      clear h3
      go_wp2
      go_ret
      exact ⟨rfl, HG4.out⟩
     ·have q3 : (e == 171) = false := by simpa using h3
      have q4 : (e == 201) = true := by have := HE2.out; simp; omega
      clear h3
      go_wp2
      go_ret
      exact ⟨rfl, HG4.out⟩
end Go.Proofs.YtnnbibmmofnkdaaGreat
