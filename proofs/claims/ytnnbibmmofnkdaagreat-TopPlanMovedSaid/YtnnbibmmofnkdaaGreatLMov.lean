/-
 TopPlanMoved: the law, walked.
-/
import Derived.Test.YtnnbibmmofnkdaaGreatMov
namespace Go.Proofs.YtnnbibmmofnkdaaGreat
open Go.RowKit Go.Proofs WageMem WageReg WageRec WageSpan WageTop

theorem solve_err (E : Env) (fuel : Int) : (solve E fuel).2.2.2 ≠ 1 := by
 unfold solve
 split
 ·show (201 : Int) ≠ 1; decide
 ·split
  ·show (171 : Int) ≠ 1; decide
  split
  ·show (0 : Int) ≠ 1; decide
  split
  ·show (201 : Int) ≠ 1; decide
  ·show (0 : Int) ≠ 1; decide
set_option maxRecDepth 100000 in
set_option maxHeartbeats 16000000 in
theorem law3 {w : World} {p : Pl} {days : Int} (hp : PlanAt w p) (hd : in64 days) :
  Calls Tryz.prog 3 #[planV p, .int .i64 days] w fun e w' => e = .returned (.bool true) ∧ Grew w w' := by
 have HP := Lib.hid hp
 have hb1 : -9223372036854775808 ≤ days := hd.1
 have hb2 : days ≤ 9223372036854775807 := hd.2
 have HDY := Lib.hid hd
 clear hp hd
 show Calls Tryz.prog 3 #[.agg #[.string p.nm, .int .i64 p.zb, .slice p.C p.cn p.cc, .slice p.D p.dn p.dc, .slice p.W p.wn p.wc, .int .i64 p.lm.rest, .int .i64 p.lm.week, .int .i64 p.lm.nf, .int .i64 p.lm.nt, .int .i64 p.lm.mn], .int .i64 days] w _
 obtain ⟨w1, hw1⟩ : ∃ y, y = w.alloc (.cells #[.string p.nm, .int .i64 p.zb, .slice p.C p.cn p.cc, .slice p.D p.dn p.dc, .slice p.W p.wn p.wc, .int .i64 p.lm.rest, .int .i64 p.lm.week, .int .i64 p.lm.nf, .int .i64 p.lm.nt, .int .i64 p.lm.mn] 32) := ⟨_, rfl⟩
 obtain ⟨tb, htb⟩ : ∃ z, z = w.heap.size := ⟨_, rfl⟩
 have g1 : Grew w w1 := by rw [hw1]; exact (Grew.refl w).alloc _
 have X1 : Hid (Blk w1 tb 32 (planC p)) := by unfold Hid; rw [hw1, htb]; exact Blk.new w 32 (planC p)
 have HG1 := Lib.hid g1
 clear g1
 go_enter Tryz.func3, Tryz.ntmps3
 go_upto_region 1 with (fail)
 rw [← hw1, ← htb]
 clear hw1 htb
 go_wp2_with fail
 refine (plan8 w1).mono ?_
 rintro r w2 ⟨rfl, g2⟩
 have X2 := Lib.hid (X1.out.grew g2)
 have HG2 := Lib.hid (HG1.out.trans g2)
 clear g2 X1 HG1
 have v0 : w2.cell? ⟨tb, 0, none⟩ = some (.string p.nm) := X2.out.cell rfl
 have v1 : w2.cell? ⟨tb, 1, none⟩ = some (.int .i64 p.zb) := X2.out.cell rfl
 have v2 : w2.cell? ⟨tb, 2, none⟩ = some (.slice p.C p.cn p.cc) := X2.out.cell rfl
 have v3 : w2.cell? ⟨tb, 3, none⟩ = some (.slice p.D p.dn p.dc) := X2.out.cell rfl
 have v4 : w2.cell? ⟨tb, 4, none⟩ = some (.slice p.W p.wn p.wc) := X2.out.cell rfl
 have v5 : w2.cell? ⟨tb, 5, none⟩ = some (.int .i64 p.lm.rest) := X2.out.cell rfl
 have v6 : w2.cell? ⟨tb, 6, none⟩ = some (.int .i64 p.lm.week) := X2.out.cell rfl
 have v7 : w2.cell? ⟨tb, 7, none⟩ = some (.int .i64 p.lm.nf) := X2.out.cell rfl
 have v8 : w2.cell? ⟨tb, 8, none⟩ = some (.int .i64 p.lm.nt) := X2.out.cell rfl
 have v9 : w2.cell? ⟨tb, 9, none⟩ = some (.int .i64 p.lm.mn) := X2.out.cell rfl
 go_wp2_with fail
 refine (tiny9 (HP.out.grew HG2.out)).mono ?_
 rintro r w3 ⟨tn, rfl, htn, g3⟩
 have X3 := Lib.hid (X2.out.grew g3)
 have HG3 := Lib.hid (HG2.out.trans g3)
 have HTN := Lib.hid htn
 clear v0 v1 v2 v3 v4 v5 v6 v7 v8 v9 g3 X2 HG2 htn
 cases tn with
 | false =>
  go_wp2
  go_ret
  exact ⟨rfl, HG3.out⟩
 | true =>
  have HOK : Hid (planB p = true) := (HTN.out rfl).1
  clear HTN
  have v0 : w3.cell? ⟨tb, 0, none⟩ = some (.string p.nm) := X3.out.cell rfl
  have v1 : w3.cell? ⟨tb, 1, none⟩ = some (.int .i64 p.zb) := X3.out.cell rfl
  have v2 : w3.cell? ⟨tb, 2, none⟩ = some (.slice p.C p.cn p.cc) := X3.out.cell rfl
  have v3 : w3.cell? ⟨tb, 3, none⟩ = some (.slice p.D p.dn p.dc) := X3.out.cell rfl
  have v4 : w3.cell? ⟨tb, 4, none⟩ = some (.slice p.W p.wn p.wc) := X3.out.cell rfl
  have v5 : w3.cell? ⟨tb, 5, none⟩ = some (.int .i64 p.lm.rest) := X3.out.cell rfl
  have v6 : w3.cell? ⟨tb, 6, none⟩ = some (.int .i64 p.lm.week) := X3.out.cell rfl
  have v7 : w3.cell? ⟨tb, 7, none⟩ = some (.int .i64 p.lm.nf) := X3.out.cell rfl
  have v8 : w3.cell? ⟨tb, 8, none⟩ = some (.int .i64 p.lm.nt) := X3.out.cell rfl
  have v9 : w3.cell? ⟨tb, 9, none⟩ = some (.int .i64 p.lm.mn) := X3.out.cell rfl
  by_cases hc0 : p.cn = 0
  ·have r1 : decide ((p.cn : Int) > 0) = false := decide_eq_false (by omega)
   have r2 : decide ((0 : Int) < (p.cn : Int)) = false := decide_eq_false (by omega)
   have r3 : decide (0 < p.cn) = false := decide_eq_false (by omega)
   have HCH : Hid (p.ch = []) := List.eq_nil_of_length_eq_zero (by rw [HP.out.ch.1]; exact hc0)
   clear hc0
   go_wp2_with fail
   refine (pick10 HDY.out (by decide) (by decide)).mono ?_
   rintro r w4 ⟨rfl, g4⟩
   have hN := pickF_bd (c := days) (n := 1000) (by decide)
   obtain ⟨N, hNN⟩ : ∃ N, pickF days 1000 = N := ⟨_, rfl⟩
   rw [hNN] at hN ⊢
   have hN1 := hN.1
   have hN2 := hN.2
   have m1 : IntKind.i64.wrap (1440 * N) = 1440 * N := IntWalk.i64_in _ (by omega)
   have X4 := Lib.hid (X3.out.grew g4)
   have HG4 := Lib.hid (HG3.out.trans g4)
   clear v0 v1 v2 v3 v4 v5 v6 v7 v8 v9 r1 r2 r3 g4 X3 HG3 hN hNN
   have v0 : w4.cell? ⟨tb, 0, none⟩ = some (.string p.nm) := X4.out.cell rfl
   have v1 : w4.cell? ⟨tb, 1, none⟩ = some (.int .i64 p.zb) := X4.out.cell rfl
   have v2 : w4.cell? ⟨tb, 2, none⟩ = some (.slice p.C p.cn p.cc) := X4.out.cell rfl
   have v3 : w4.cell? ⟨tb, 3, none⟩ = some (.slice p.D p.dn p.dc) := X4.out.cell rfl
   have v4 : w4.cell? ⟨tb, 4, none⟩ = some (.slice p.W p.wn p.wc) := X4.out.cell rfl
   have v5 : w4.cell? ⟨tb, 5, none⟩ = some (.int .i64 p.lm.rest) := X4.out.cell rfl
   have v6 : w4.cell? ⟨tb, 6, none⟩ = some (.int .i64 p.lm.week) := X4.out.cell rfl
   have v7 : w4.cell? ⟨tb, 7, none⟩ = some (.int .i64 p.lm.nf) := X4.out.cell rfl
   have v8 : w4.cell? ⟨tb, 8, none⟩ = some (.int .i64 p.lm.nt) := X4.out.cell rfl
   have v9 : w4.cell? ⟨tb, 9, none⟩ = some (.int .i64 p.lm.mn) := X4.out.cell rfl
   go_wp2_with fail
   refine (moved11 (t := 1440 * N) (HP.out.grew HG4.out) HOK.out (by omega)).mono ?_
   rintro r w5 ⟨q, rfl, hq, hmv, hnm, g5⟩
   rw [show planV q = .agg #[.string q.nm, .int .i64 q.zb, .slice q.C q.cn q.cc, .slice q.D q.dn q.dc, .slice q.W q.wn q.wc, .int .i64 q.lm.rest, .int .i64 q.lm.week, .int .i64 q.lm.nf, .int .i64 q.lm.nt, .int .i64 q.lm.mn] from rfl]
   have X5 := Lib.hid (X4.out.grew g5)
   have HG5 := Lib.hid (HG4.out.trans g5)
   have HQ := Lib.hid hq
   have HMV := Lib.hid hmv
   have HZP : Hid (znB ⟨p.zb, p.ch⟩ = true) := by
    have h0 := HOK.out
    unfold planB at h0
    simp only [Bool.and_eq_true] at h0
    exact h0.1
   have HZQ : Hid (znB ⟨q.zb, q.ch⟩ = true) := by
    have h0 := HOK.out
    unfold planB at h0
    simp only [Bool.and_eq_true] at h0
    unfold Hid
    rw [hmv.zb, hmv.ch]
    exact h0.1
   clear v0 v1 v2 v3 v4 v5 v6 v7 v8 v9 m1 g5 X4 HG4 hq hmv hnm
   obtain ⟨wq, hwq⟩ : ∃ y, y = w5.alloc (.cells #[.string q.nm, .int .i64 q.zb, .slice q.C q.cn q.cc, .slice q.D q.dn q.dc, .slice q.W q.wn q.wc, .int .i64 q.lm.rest, .int .i64 q.lm.week, .int .i64 q.lm.nf, .int .i64 q.lm.nt, .int .i64 q.lm.mn] 32) := ⟨_, rfl⟩
   obtain ⟨qb, hqb⟩ : ∃ z, z = w5.heap.size := ⟨_, rfl⟩
   have gq : Grew w5 wq := by rw [hwq]; exact (Grew.refl w5).alloc _
   have Y5 : Hid (Blk wq qb 32 (planC q)) := by unfold Hid; rw [hwq, hqb]; exact Blk.new w5 32 (planC q)
   have HQq := Lib.hid (HQ.out.grew gq)
   have X5q := Lib.hid (X5.out.grew gq)
   have HG5q := Lib.hid (HG5.out.trans gq)
   clear gq HQ X5 HG5
   go_upto_region 7 with (fail)
   rw [← hwq, ← hqb]
   clear hwq hqb
   have u0 : wq.cell? ⟨qb, 0, none⟩ = some (.string q.nm) := Y5.out.cell rfl
   have u1 : wq.cell? ⟨qb, 1, none⟩ = some (.int .i64 q.zb) := Y5.out.cell rfl
   have u2 : wq.cell? ⟨qb, 2, none⟩ = some (.slice q.C q.cn q.cc) := Y5.out.cell rfl
   have u3 : wq.cell? ⟨qb, 3, none⟩ = some (.slice q.D q.dn q.dc) := Y5.out.cell rfl
   have u4 : wq.cell? ⟨qb, 4, none⟩ = some (.slice q.W q.wn q.wc) := Y5.out.cell rfl
   have u5 : wq.cell? ⟨qb, 5, none⟩ = some (.int .i64 q.lm.rest) := Y5.out.cell rfl
   have u6 : wq.cell? ⟨qb, 6, none⟩ = some (.int .i64 q.lm.week) := Y5.out.cell rfl
   have u7 : wq.cell? ⟨qb, 7, none⟩ = some (.int .i64 q.lm.nf) := Y5.out.cell rfl
   have u8 : wq.cell? ⟨qb, 8, none⟩ = some (.int .i64 q.lm.nt) := Y5.out.cell rfl
   have u9 : wq.cell? ⟨qb, 9, none⟩ = some (.int .i64 q.lm.mn) := Y5.out.cell rfl
   go_wp2_with fail
   refine (zvalid12 q.nm q.zb q.C q.cn q.cc q.ch wq true HQq.out.ch HZQ.out).mono ?_
   rintro r w6 ⟨rfl, g6⟩
   have X6 := Lib.hid (X5q.out.grew g6)
   have Y6 := Lib.hid (Y5.out.grew g6)
   have HQ6 := Lib.hid (HQq.out.grew g6)
   have HG6 := Lib.hid (HG5q.out.trans g6)
   clear u0 u1 u2 u3 u4 u5 u6 u7 u8 u9 g6 X5q Y5 HQq HG5q
   have v0 : w6.cell? ⟨tb, 0, none⟩ = some (.string p.nm) := X6.out.cell rfl
   have v1 : w6.cell? ⟨tb, 1, none⟩ = some (.int .i64 p.zb) := X6.out.cell rfl
   have v2 : w6.cell? ⟨tb, 2, none⟩ = some (.slice p.C p.cn p.cc) := X6.out.cell rfl
   have v3 : w6.cell? ⟨tb, 3, none⟩ = some (.slice p.D p.dn p.dc) := X6.out.cell rfl
   have v4 : w6.cell? ⟨tb, 4, none⟩ = some (.slice p.W p.wn p.wc) := X6.out.cell rfl
   have v5 : w6.cell? ⟨tb, 5, none⟩ = some (.int .i64 p.lm.rest) := X6.out.cell rfl
   have v6 : w6.cell? ⟨tb, 6, none⟩ = some (.int .i64 p.lm.week) := X6.out.cell rfl
   have v7 : w6.cell? ⟨tb, 7, none⟩ = some (.int .i64 p.lm.nf) := X6.out.cell rfl
   have v8 : w6.cell? ⟨tb, 8, none⟩ = some (.int .i64 p.lm.nt) := X6.out.cell rfl
   have v9 : w6.cell? ⟨tb, 9, none⟩ = some (.int .i64 p.lm.mn) := X6.out.cell rfl
   go_wp2_with fail
   refine (solve13 p 4000 w6 (HP.out.grew HG6.out)).mono ?_
   rintro r w7 ⟨BA, bc, GA, gc, rfl, hown, hlog, g7⟩
   have HI1 : Hid (Ints w7 BA (solF p 4000).1.length bc (solF p 4000).1) := Ints.own rfl hown
   have X7 := Lib.hid (X6.out.grew g7)
   have Y7 := Lib.hid (Y6.out.grew g7)
   have HQ7 := Lib.hid (HQ6.out.grew g7)
   have HG7 := Lib.hid (HG6.out.trans g7)
   clear v0 v1 v2 v3 v4 v5 v6 v7 v8 v9 g7 X6 Y6 HQ6 HG6 hown hlog
   have u0 : w7.cell? ⟨qb, 0, none⟩ = some (.string q.nm) := Y7.out.cell rfl
   have u1 : w7.cell? ⟨qb, 1, none⟩ = some (.int .i64 q.zb) := Y7.out.cell rfl
   have u2 : w7.cell? ⟨qb, 2, none⟩ = some (.slice q.C q.cn q.cc) := Y7.out.cell rfl
   have u3 : w7.cell? ⟨qb, 3, none⟩ = some (.slice q.D q.dn q.dc) := Y7.out.cell rfl
   have u4 : w7.cell? ⟨qb, 4, none⟩ = some (.slice q.W q.wn q.wc) := Y7.out.cell rfl
   have u5 : w7.cell? ⟨qb, 5, none⟩ = some (.int .i64 q.lm.rest) := Y7.out.cell rfl
   have u6 : w7.cell? ⟨qb, 6, none⟩ = some (.int .i64 q.lm.week) := Y7.out.cell rfl
   have u7 : w7.cell? ⟨qb, 7, none⟩ = some (.int .i64 q.lm.nf) := Y7.out.cell rfl
   have u8 : w7.cell? ⟨qb, 8, none⟩ = some (.int .i64 q.lm.nt) := Y7.out.cell rfl
   have u9 : w7.cell? ⟨qb, 9, none⟩ = some (.int .i64 q.lm.mn) := Y7.out.cell rfl
   go_wp2_with fail
   refine (solve13 q 4000 w7 HQ7.out).mono ?_
   rintro r w8 ⟨BB, bd, GB, gd, rfl, hown, hlog, g8⟩
   have HI2 : Hid (Ints w8 BB (solF q 4000).1.length bd (solF q 4000).1) := Ints.own rfl hown
   have HI1b := Lib.hid (HI1.out.grew g8)
   have X8 := Lib.hid (X7.out.grew g8)
   have Y8 := Lib.hid (Y7.out.grew g8)
   have HQ8 := Lib.hid (HQ7.out.grew g8)
   have HG8 := Lib.hid (HG7.out.trans g8)
   clear u0 u1 u2 u3 u4 u5 u6 u7 u8 u9 g8 X7 Y7 HQ7 HG7 hown hlog HI1
   have HE : Hid ((solF p 4000).2.2.2 ≠ 1) := by unfold Hid solF; rw [if_pos ⟨HOK.out, by decide, by decide⟩]; exact solve_err _ _
   have HSAME : Hid (planB q = true → solF q 4000 = solF p 4000) := fun h => HMV.out.sol ⟨hN1, by omega⟩ HCH.out HOK.out h HP.out.ds.len 4000
   have HARG : Hid (planB q = false → solF q 4000 = ([], 0, [], 1)) := fun h => by unfold solF; rw [h]; rfl
   obtain ⟨⟨l1, c1, lg1, e1⟩, hs1⟩ : ∃ s, solF p 4000 = s := ⟨_, rfl⟩
   obtain ⟨⟨l2, c2, lg2, f2⟩, hs2⟩ : ∃ s, solF q 4000 = s := ⟨_, rfl⟩
   rw [hs1] at HE HSAME HI1b ⊢
   rw [hs2] at HSAME HARG HI2 ⊢
   simp only at HE HI1b HI2 ⊢
   have HOR : Hid (f2 = 1 ∨ (f2 = e1 ∧ c2 = c1 ∧ l2 = l1)) := by
    unfold Hid
    cases hpq : planB q with
    | true =>
     have := HSAME.out hpq
     injection this with h1 h2
     injection h2 with h2 h3
     injection h3 with h3 h4
     exact .inr ⟨h4, h2, h1⟩
    | false =>
     have := HARG.out hpq
     injection this with h1 h2
     injection h2 with h2 h3
     injection h3 with h3 h4
     exact .inl h4
   have HF1 : Hid (planB q = false → f2 = 1) := fun h => by
    have := HARG.out h
    injection this with h1 h2
    injection h2 with h2 h3
    injection h3 with h3 h4
   clear hs1 hs2 HSAME HARG
   have hdn9 := HP.out.ds.le
   go_wp2_with fail
   go_loopw [5, 17] (fun u i y => ∃ k : Nat, k ≤ p.dn ∧ u = .bool true ∧ i = .int .i64 k ∧ Hid (Grew w8 y)) (fun _ i _ => p.dn - (intOf i).toNat)
   case atStart => exact ⟨0, Nat.zero_le _, rfl, rfl, Grew.refl _⟩
   case round =>
    obtain ⟨k, hk, rfl, rfl, HY⟩ := hrel
    have Xr := Lib.hid (X8.out.grew HY.out)
    have Yr := Lib.hid (Y8.out.grew HY.out)
    have HQr := Lib.hid (HQ8.out.grew HY.out)
    have HGr := Lib.hid (HG8.out.trans HY.out)
    have HPr := Lib.hid (HP.out.grew HGr.out)
    have v0 : wr.cell? ⟨tb, 0, none⟩ = some (.string p.nm) := Xr.out.cell rfl
    have v1 : wr.cell? ⟨tb, 1, none⟩ = some (.int .i64 p.zb) := Xr.out.cell rfl
    have v2 : wr.cell? ⟨tb, 2, none⟩ = some (.slice p.C p.cn p.cc) := Xr.out.cell rfl
    have v3 : wr.cell? ⟨tb, 3, none⟩ = some (.slice p.D p.dn p.dc) := Xr.out.cell rfl
    by_cases hlt : k < p.dn
    ·skip
     obtain ⟨bd1, od1, x, hD, hx, ⟨f0, f1, f3⟩, hxb⟩ := HPr.out.ds.at_ hlt
     obtain ⟨bd2, od2, y, hD2, hy, ⟨g0, g1, g3⟩, hyb⟩ := HQr.out.ds.at_ (show k < q.dn by rw [HMV.out.dn]; exact hlt)
     have hyx : y = shD (1440 * N) x := by
      have := HMV.out.ds ▸ hy
      rw [List.getElem?_map, hx] at this
      injection this with this
      exact this.symm
     have HDP := Lib.hid (duty_ok HOK.out (d := k) (List.getElem?_eq_some_iff.1 hx).1)
     rw [du_at hx] at HDP
     have HYM := List.mem_of_getElem? hy
     have HNQ : Hid (dOk q.z y = false → f2 = 1) := fun h => HF1.out (by
      unfold planB
      rw [show q.ds.all (dOk q.z) = false from List.all_eq_false.2 ⟨y, HYM, by rw [h]; simp⟩]
      simp)
     have HQZ : Hid (q.z = ⟨p.zb, []⟩ ∧ p.z = ⟨p.zb, []⟩) := HMV.out.z HCH.out
     obtain ⟨xa, xb, xs⟩ := x
     simp only at f0 f1 f3
     have hA : ∀ w', Grew wr.drew w' → w'.cell? ⟨tb, 0, none⟩ = some (.string p.nm) ∧ w'.cell? ⟨tb, 1, none⟩ = some (.int .i64 p.zb) ∧ w'.cell? ⟨tb, 2, none⟩ = some (.slice p.C p.cn p.cc) ∧ w'.cell? ⟨tb, 3, none⟩ = some (.slice (some ⟨bd1, od1, none⟩) p.dn p.dc) ∧ w'.cell? ⟨bd1, od1 + k * 3, none⟩ = some (.int .i64 xa) ∧ w'.cell? ⟨bd1, od1 + k * 3 + 1, none⟩ = some (.int .i64 xb) ∧ w'.cell? ⟨bd1, od1 + k * 3 + 2, none⟩ = some (.int .i64 xs) := fun w' g' => by
      have gg := (Grew.refl wr).drew.trans g'
      rw [hD] at v3
      exact ⟨gg.cell v0, gg.cell v1, gg.cell v2, gg.cell v3, gg.cell f0, gg.cell f1, gg.cell f3⟩
     have HA := Lib.hid hA
     obtain ⟨ya, yb, ys⟩ := y
     simp only at g0 g1 g3
     have hB : ∀ w', Grew wr w' → w'.cell? ⟨qb, 0, none⟩ = some (.string q.nm) ∧ w'.cell? ⟨qb, 1, none⟩ = some (.int .i64 q.zb) ∧ w'.cell? ⟨qb, 2, none⟩ = some (.slice q.C q.cn q.cc) ∧ w'.cell? ⟨qb, 3, none⟩ = some (.slice (some ⟨bd2, od2, none⟩) q.dn q.dc) ∧ w'.cell? ⟨bd2, od2 + k * 3, none⟩ = some (.int .i64 ya) ∧ w'.cell? ⟨bd2, od2 + k * 3 + 1, none⟩ = some (.int .i64 yb) ∧ w'.cell? ⟨bd2, od2 + k * 3 + 2, none⟩ = some (.int .i64 ys) := fun w' gg => by
      have hb := Yr.out.grew gg
      have h3 : w'.cell? ⟨qb, 3, none⟩ = some (.slice q.D q.dn q.dc) := hb.cell rfl
      rw [hD2] at h3
      exact ⟨hb.cell rfl, hb.cell rfl, hb.cell rfl, h3, gg.cell g0, gg.cell g1, gg.cell g3⟩
     have HB := Lib.hid hB
     have HYX := Lib.hid hyx
     have e1 : (0 : Int) ≤ (k : Int) := by omega
     have e2 : (k : Int) < (p.dn : Int) := by omega
     have HDN : Hid (q.dn = p.dn) := HMV.out.dn
     have e3 : (k : Int) < (q.dn : Int) := by rw [HDN.out]; exact e2
     have e4 : k < q.dn := by omega
     clear hD hD2 hx hy f0 f1 f3 g0 g1 g3 hxb hyb hA hB hyx HYM
     go_upto_region 14 with (fail)
     refine wp_region_G (by kernel_rfl) Grew.refl 13 ?_
     refine wpAnyG_takes Grew.refl (fun _ _ _ => Grew.trans) (fun _ _ _ _ _ h => h) [0, 1, 2, 3, 4, 5, 6] (fuel' := 6) (by kernel_rfl) (by kernel_rfl) (by simp only [pickOps, List.getElem?_toArray, List.getElem?_cons_zero, List.getElem?_cons_succ]; rfl) ?_
     repeat (first
      | (refine TakeAll.pure (v := ?_) (by rfl) ?_ ?_; rotate_left; (intro w' g'; obtain ⟨q_0, q_1, q_2, q_3, q_4, q_5, q_6⟩ := HA.out w' g'; go_simp; first | done | with_reducible rfl); (simp only [Act.put, List.setIfInBounds_toArray, List.set_cons_zero, List.set_cons_succ]))
      | (refine TakeAll.skip (by rfl) ?_; (simp only [Act.put, List.setIfInBounds_toArray, List.set_cons_zero, List.set_cons_succ])))
     refine TakeAll.nil ?_
     refine wpAnyG_stepW (i := 7) (by kernel_rfl) (fuel' := 5) (by kernel_rfl) (by simp only [pickOps, List.getElem?_toArray, List.getElem?_cons_zero, List.getElem?_cons_succ]; rfl) (by rfl) ?_
     intro wA g_wA K hK
     refine wp_call 14 _ (by go_simp; first | done | rfl) ?_
     refine (min14 p.nm p.zb p.C p.cn p.cc p.ch ⟨xa, xb, xs⟩ wA (HPr.out.ch.grew ((Grew.refl wr).drew.trans g_wA)) (HZP.out)).mono ?_
     intro r wB hr
     have hr2 : RetSp ⟨p.zb, p.ch⟩ xa xb wA r wB := by
      rcases hr with ⟨_, h⟩ | ⟨h, _⟩
      ·exact h
      ·exact absurd (HDP.out.1.symm.trans h) (by simp)
     rcases hr2 with ⟨_, A5, n5, c5, rfl, ⟨hspA, _⟩, gB⟩ | ⟨h, _⟩
     rotate_left
     ·exact absurd (HDP.out.2.symm.trans h) (by simp)
     have HSA := Lib.hid hspA
     refine ⟨_, rfl, hK _ _ gB ?_⟩
     clear hK K
     simp only [Act.put, List.setIfInBounds_toArray, List.set_cons_zero, List.set_cons_succ]
     refine wpAnyG_takes Grew.refl (fun _ _ _ => Grew.trans) (fun _ _ _ _ _ h => h) [8, 9, 10, 11, 12] (fuel' := 0) (by kernel_rfl) (by kernel_rfl) (by simp only [pickOps, List.getElem?_toArray, List.getElem?_cons_zero, List.getElem?_cons_succ]; rfl) ?_
     repeat (first
      | (refine TakeAll.pure (v := ?_) (by rfl) ?_ ?_; rotate_left; (intro w' g'; go_simp; first | done | with_reducible rfl); (simp only [Act.put, List.setIfInBounds_toArray, List.set_cons_zero, List.set_cons_succ]))
      | (refine TakeAll.skip (by rfl) ?_; (simp only [Act.put, List.setIfInBounds_toArray, List.set_cons_zero, List.set_cons_succ])))
     refine TakeAll.nil ?_
     refine wpAnyG_done (by kernel_rfl) ?_ _
     intro wC g_wC
     have GC := Lib.hid ((((Grew.refl wr).drew.trans g_wA).trans gB).trans g_wC)
     have HSA2 := Lib.hid (HSA.out.grew g_wC)
     have hB2 : ∀ w', Grew wC.drew w' → w'.cell? ⟨qb, 0, none⟩ = some (.string q.nm) ∧ w'.cell? ⟨qb, 1, none⟩ = some (.int .i64 q.zb) ∧ w'.cell? ⟨qb, 2, none⟩ = some (.slice q.C q.cn q.cc) ∧ w'.cell? ⟨qb, 3, none⟩ = some (.slice (some ⟨bd2, od2, none⟩) q.dn q.dc) ∧ w'.cell? ⟨bd2, od2 + k * 3, none⟩ = some (.int .i64 ya) ∧ w'.cell? ⟨bd2, od2 + k * 3 + 1, none⟩ = some (.int .i64 yb) ∧ w'.cell? ⟨bd2, od2 + k * 3 + 2, none⟩ = some (.int .i64 ys) := fun w' g' => HB.out w' (GC.out.trans ((Grew.refl wC).drew.trans g'))
     have HB2 := Lib.hid hB2
     clear hB2 HB HA g_wA gB g_wC hspA HSA v0 v1 v2 v3
     go_upto_region 15 with (fail)
     refine wp_region_G (by kernel_rfl) Grew.refl 13 ?_
     refine wpAnyG_takes Grew.refl (fun _ _ _ => Grew.trans) (fun _ _ _ _ _ h => h) [0, 1, 2, 3, 4, 5, 6] (fuel' := 6) (by kernel_rfl) (by kernel_rfl) (by simp only [pickOps, List.getElem?_toArray, List.getElem?_cons_zero, List.getElem?_cons_succ]; rfl) ?_
     repeat (first
      | (refine TakeAll.pure (v := ?_) (by rfl) ?_ ?_; rotate_left; (intro w' g'; obtain ⟨q_0, q_1, q_2, q_3, q_4, q_5, q_6⟩ := HB2.out w' g'; go_simp; first | done | with_reducible rfl); (simp only [Act.put, List.setIfInBounds_toArray, List.set_cons_zero, List.set_cons_succ]))
      | (refine TakeAll.skip (by rfl) ?_; (simp only [Act.put, List.setIfInBounds_toArray, List.set_cons_zero, List.set_cons_succ])))
     refine TakeAll.nil ?_
     refine wpAnyG_stepW (i := 7) (by kernel_rfl) (fuel' := 5) (by kernel_rfl) (by simp only [pickOps, List.getElem?_toArray, List.getElem?_cons_zero, List.getElem?_cons_succ]; rfl) (by rfl) ?_
     intro wD g_wD K hK
     refine wp_call 14 _ (by go_simp; first | done | rfl) ?_
     refine (min14 q.nm q.zb q.C q.cn q.cc q.ch ⟨ya, yb, ys⟩ wD (HQr.out.ch.grew (GC.out.trans ((Grew.refl wC).drew.trans g_wD))) (HZQ.out)).mono ?_
     intro r wE hr
     have hr2 : (splitB ⟨q.zb, q.ch⟩ ya yb = true ∧ ∃ A n c, r = .returned (.tuple #[.slice A n c, .int .i64 0]) ∧ Spans wE A n c (splitL ⟨q.zb, q.ch⟩ ya yb) ∧ Grew wD wE) ∨ (f2 = 1 ∧ ∃ h : Int, h ≠ 0 ∧ r = .returned (.tuple #[.slice none 0 0, .int .i64 h]) ∧ Grew wD wE) := by
      rcases hr with ⟨h1, h⟩ | ⟨h1, h2, h3⟩
      ·rcases h with ⟨h2, A, n, c, h3, ⟨h4, _⟩, h5⟩ | ⟨h2, h3, h4⟩
       ·exact .inl ⟨h2, A, n, c, h3, h4, h5⟩
       ·exact .inr ⟨HNQ.out (by unfold dOk; rw [show q.z = ⟨q.zb, q.ch⟩ from rfl, h2, Bool.and_false]), 21, by decide, h3, h4⟩
      ·exact .inr ⟨HNQ.out (by unfold dOk; rw [h1, Bool.false_and]), 171, by decide, h2, h3⟩
     clear hr
     rcases hr2 with ⟨_, A6, n6, c6, rfl, hspB, gE⟩ | ⟨hf, h, hh, rfl, gE⟩
     rotate_left
     ·refine ⟨_, rfl, hK _ _ gE ?_⟩
      clear hK K
      simp only [Act.put, List.setIfInBounds_toArray, List.set_cons_zero, List.set_cons_succ]
      refine wpAnyG_takes Grew.refl (fun _ _ _ => Grew.trans) (fun _ _ _ _ _ h => h) [8, 9, 10, 11, 12] (fuel' := 0) (by kernel_rfl) (by kernel_rfl) (by simp only [pickOps, List.getElem?_toArray, List.getElem?_cons_zero, List.getElem?_cons_succ]; rfl) ?_
      repeat (first
       | (refine TakeAll.pure (v := ?_) (by rfl) ?_ ?_; rotate_left; (intro w' g'; go_simp; first | done | with_reducible rfl); (simp only [Act.put, List.setIfInBounds_toArray, List.set_cons_zero, List.set_cons_succ]))
       | (refine TakeAll.skip (by rfl) ?_; (simp only [Act.put, List.setIfInBounds_toArray, List.set_cons_zero, List.set_cons_succ])))
      refine TakeAll.nil ?_
      refine wpAnyG_done (by kernel_rfl) ?_ _
      intro wF g_wF
      have HGF := Lib.hid (HGr.out.trans (GC.out.trans ((((Grew.refl wC).drew.trans g_wD).trans gE).trans g_wF)))
      subst hf
      have q1 : (h != 0) = true := by simpa using hh
      have q2 : (h == 0) = false := by simpa using hh
      clear hh
      go_wp2
      go_ret
      exact ⟨rfl, HGF.out⟩
     have HSB := Lib.hid hspB
     refine ⟨_, rfl, hK _ _ gE ?_⟩
     clear hK K
     simp only [Act.put, List.setIfInBounds_toArray, List.set_cons_zero, List.set_cons_succ]
     refine wpAnyG_takes Grew.refl (fun _ _ _ => Grew.trans) (fun _ _ _ _ _ h => h) [8, 9, 10, 11, 12] (fuel' := 0) (by kernel_rfl) (by kernel_rfl) (by simp only [pickOps, List.getElem?_toArray, List.getElem?_cons_zero, List.getElem?_cons_succ]; rfl) ?_
     repeat (first
      | (refine TakeAll.pure (v := ?_) (by rfl) ?_ ?_; rotate_left; (intro w' g'; go_simp; first | done | with_reducible rfl); (simp only [Act.put, List.setIfInBounds_toArray, List.set_cons_zero, List.set_cons_succ]))
      | (refine TakeAll.skip (by rfl) ?_; (simp only [Act.put, List.setIfInBounds_toArray, List.set_cons_zero, List.set_cons_succ])))
     refine TakeAll.nil ?_
     refine wpAnyG_done (by kernel_rfl) ?_ _
     intro wF g_wF
     have GF := Lib.hid (GC.out.trans ((((Grew.refl wC).drew.trans g_wD).trans gE).trans g_wF))
     have HSA3 : Hid (Spans wF A5 n5 c5 (splitL ⟨p.zb, []⟩ xa xb)) := by
      have h1 := HSA2.out.grew ((((Grew.refl wC).drew.trans g_wD).trans gE).trans g_wF)
      rw [HCH.out] at h1
      exact h1
     have HSB3 : Hid (Spans wF A6 n6 c6 ((splitL ⟨p.zb, []⟩ xa xb).map (shK N))) := by
      have h1 := HSB.out.grew g_wF
      have h2 := HYX.out
      injection h2 with h3 h4 h5
      rw [← split_sh, ← h3, ← h4]
      have h6 : (⟨q.zb, q.ch⟩ : Zn) = ⟨p.zb, []⟩ := HQZ.out.1
      rw [h6] at h1
      exact h1
     have hn56 : n6 = n5 := by rw [← HSB3.out.1, List.length_map, HSA3.out.1]
     subst hn56
     have HSD : Hid (∀ z ∈ splitL ⟨p.zb, []⟩ xa xb, 0 ≤ z.1 ∧ z.1 ≤ 36524) := fun z hz => split_day p.z HDP.out.2 z (by rw [HQZ.out.2]; exact hz)
     have n9 := HSA3.out.le
     have HSLL : Hid ((splitL ⟨p.zb, []⟩ xa xb).length = n6) := HSA3.out.1
     obtain ⟨sl, hsl⟩ : ∃ sl, splitL ⟨p.zb, []⟩ xa xb = sl := ⟨_, rfl⟩
     rw [hsl] at HSA3 HSB3 HSD HSLL
     clear hsl HB2 GC HSA2 HSB hspB gE g_wD g_wF HNQ HDP HYX HQZ
     go_wp2_with fail
     go_loopw [5, 22] (fun u i y => ∃ j : Nat, j ≤ n6 ∧ u = .bool true ∧ i = .int .i64 j ∧ Hid (Grew wF y)) (fun _ i _ => n6 - (intOf i).toNat)
     case atStart => exact ⟨0, Nat.zero_le _, rfl, rfl, Grew.refl _⟩
     case round =>
      obtain ⟨j, hj, rfl, rfl, HY2⟩ := hrel
      by_cases hjt : j < n6
      ·obtain ⟨b1, o1, s1, hA1, hs1, d0, d1, _, _⟩ := (HSA3.out.grew HY2.out).at_ hjt
       obtain ⟨b2, o2, s2, hA2, hs2, d2, d3, _, _⟩ := (HSB3.out.grew HY2.out).at_ hjt
       have hss : s2 = shK N s1 := by
        rw [List.getElem?_map, hs1] at hs2
        injection hs2 with hs2
        exact hs2.symm
       have hrg := HSD.out s1 (List.mem_of_getElem? hs1)
       obtain ⟨da, ma⟩ := s1
       subst hss
       have d2 : wr.cell? ⟨b2, o2 + j * 2, none⟩ = some (.int .i64 (da + N)) := d2
       have d3 : wr.cell? ⟨b2, o2 + j * 2 + 1, none⟩ = some (.int .i64 ma) := d3
       simp only at d0 d1 hrg
       have m1 : IntKind.i64.wrap (da + N) = da + N := IntWalk.i64_in _ (by omega)
       have e5 : (0 : Int) ≤ (j : Int) := by omega
       have e6 : (j : Int) < (n6 : Int) := by omega
       have hC : ∀ w', Grew wr.drew w' → w'.cell? ⟨b1, o1 + j * 2, none⟩ = some (.int .i64 da) ∧ w'.cell? ⟨b1, o1 + j * 2 + 1, none⟩ = some (.int .i64 ma) ∧ w'.cell? ⟨b2, o2 + j * 2, none⟩ = some (.int .i64 (da + N)) ∧ w'.cell? ⟨b2, o2 + j * 2 + 1, none⟩ = some (.int .i64 ma) := fun w' g' => by
        have gg := (Grew.refl wr).drew.trans g'
        exact ⟨gg.cell d0, gg.cell d1, gg.cell d2, gg.cell d3⟩
       have HC := Lib.hid hC
       subst hA1 hA2
       clear hs1 hs2 d0 d1 d2 d3 hC hrg
       go_upto_region 23 with (fail)
       refine wp_region_seq (by kernel_rfl) Grew.refl (fun _ _ _ => Grew.trans) (fun _ _ _ _ _ h => h) (by kernel_rfl) ?_
       repeat (first
        | (refine TakeAll.pure (v := ?_) (by rfl) ?_ ?_; rotate_left; (intro w' g'; obtain ⟨q_0, q_1, q_2, q_3⟩ := HC.out w' g'; go_simp; first | done | with_reducible rfl); (simp only [Act.put, List.setIfInBounds_toArray, List.set_cons_zero, List.set_cons_succ]))
        | (refine TakeAll.skip (by rfl) ?_; (simp only [Act.put, List.setIfInBounds_toArray, List.set_cons_zero, List.set_cons_succ])))
       refine TakeAll.nil ?_
       intro w5 g5
       have G5 := Lib.hid (HY2.out.trans ((Grew.refl wr).drew.trans g5))
       clear g5 HC m1
       go_wp2_with fail
       go_roundw
       case rel => exact ⟨j + 1, by omega, rfl, by go_num, G5.out⟩
       case measure => simp [intOf]; omega
      ·obtain rfl : n6 = j := by omega
       have HYY := Lib.hid (HY.out.trans (GF.out.trans HY2.out))
       go_wp2_with fail
       go_roundw
       case rel => exact ⟨k + 1, by omega, rfl, by go_num, HYY.out⟩
       case measure => simp [intOf]; omega
    ·obtain rfl : p.dn = k := by omega
     clear hlt
     rcases HOR.out with h1 | ⟨h1, h2, h3⟩
     ·subst h1
      have q1 : (e1 != 1) = true := by simpa using HE.out
      have q2 : (e1 == 1) = false := by simpa using HE.out
      go_wp2
      go_ret
      exact ⟨rfl, HGr.out⟩
     ·subst h1 h2 h3
      have q1 : (f2 != 1) = true := by simpa using HE.out
      have q2 : (f2 == 1) = false := by simpa using HE.out
      by_cases h4 : f2 = 201
      ·have q3 : (f2 == 201) = true := by simpa using h4
       clear h4
       go_wp2
       go_ret
       exact ⟨rfl, HGr.out⟩
      ·have q3 : (f2 == 201) = false := by simpa using h4
       clear h4
       go_wp2_with fail
       refine (same15 (t := true) (HI1b.out.grew HY.out) (HI2.out.grew HY.out) (by simp)).mono ?_
       rintro r w9 ⟨rfl, g9⟩
       have HG9 := Lib.hid (HGr.out.trans g9)
       clear g9
       go_wp2
       go_ret
       exact ⟨rfl, HG9.out⟩
  ·have r1 : decide ((p.cn : Int) > 0) = true := decide_eq_true (by omega)
   have r2 : decide ((0 : Int) < (p.cn : Int)) = true := decide_eq_true (by omega)
   have r3 : decide (0 < p.cn) = true := decide_eq_true (by omega)
   go_wp2
   go_ret
   exact ⟨rfl, HG3.out⟩
end Go.Proofs.YtnnbibmmofnkdaaGreat
