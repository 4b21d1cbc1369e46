/-
 TopBaseFollows: the law, walked.
-/
import Derived.Test.YtnnbibmmofnkdaaGreatHed
import Derived.Test.YtnnbibmmofnkdaaGreatBadC
import Derived.Test.YtnnbibmmofnkdaaGreatRpl
namespace Go.Proofs.YtnnbibmmofnkdaaGreat
open Go.RowKit Go.Proofs WageMem WageReg WageRec WageSpan WageTop
set_option maxRecDepth 100000 in
set_option maxHeartbeats 8000000 in
theorem small23 {w : World} {p : Pl} (hp : PlanAt w p) : Calls Tryz.prog 23 #[planV p, .slice none 0 0, .int .i64 7] w (RetVB (p.dn ≤ 7) w) := by
 have HP := Lib.hid hp
 have hwl := hp.ws.le
 have hwl2 : p.ws.length = p.wn := hp.ws.len
 have HWL := Lib.hid hwl2
 clear hp hwl2
 show Calls Tryz.prog 23 #[.agg #[.string p.nm, .int .i64 p.zb, .slice p.C p.cn p.cc, .slice p.D p.dn p.dc, .slice p.W p.wn p.wc, .int .i64 p.lm.rest, .int .i64 p.lm.week, .int .i64 p.lm.nf, .int .i64 p.lm.nt, .int .i64 p.lm.mn], .slice none 0 0, .int .i64 7] w _
 obtain ⟨w1, hw1⟩ : ∃ y, y = w.alloc (.cells #[.string p.nm, .int .i64 p.zb, .slice p.C p.cn p.cc, .slice p.D p.dn p.dc, .slice p.W p.wn p.wc, .int .i64 p.lm.rest, .int .i64 p.lm.week, .int .i64 p.lm.nf, .int .i64 p.lm.nt, .int .i64 p.lm.mn] 32) := ⟨_, rfl⟩
 obtain ⟨tb, htb⟩ : ∃ z, z = w.heap.size := ⟨_, rfl⟩
 have g1 : Grew w w1 := by rw [hw1]; exact (Grew.refl w).alloc _
 have X1 : Hid (Blk w1 tb 32 (planC p)) := by unfold Hid; rw [hw1, htb]; exact Blk.new w 32 (planC p)
 have HG1 := Lib.hid g1
 clear g1
 go_enter Tryz.func23, Tryz.ntmps23
 go_upto_region 1 with (fail)
 rw [← hw1, ← htb]
 clear hw1 htb
 have v0 : w1.cell? ⟨tb, 0, none⟩ = some (.string p.nm) := X1.out.cell rfl
 have v1 : w1.cell? ⟨tb, 1, none⟩ = some (.int .i64 p.zb) := X1.out.cell rfl
 have v2 : w1.cell? ⟨tb, 2, none⟩ = some (.slice p.C p.cn p.cc) := X1.out.cell rfl
 have v3 : w1.cell? ⟨tb, 3, none⟩ = some (.slice p.D p.dn p.dc) := X1.out.cell rfl
 have v4 : w1.cell? ⟨tb, 4, none⟩ = some (.slice p.W p.wn p.wc) := X1.out.cell rfl
 have v5 : w1.cell? ⟨tb, 5, none⟩ = some (.int .i64 p.lm.rest) := X1.out.cell rfl
 have v6 : w1.cell? ⟨tb, 6, none⟩ = some (.int .i64 p.lm.week) := X1.out.cell rfl
 have v7 : w1.cell? ⟨tb, 7, none⟩ = some (.int .i64 p.lm.nf) := X1.out.cell rfl
 have v8 : w1.cell? ⟨tb, 8, none⟩ = some (.int .i64 p.lm.nt) := X1.out.cell rfl
 have v9 : w1.cell? ⟨tb, 9, none⟩ = some (.int .i64 p.lm.mn) := X1.out.cell rfl
 by_cases h1 : p.dn ≤ 7
 ·skip
  have ra : decide ((p.dn : Int) > 7) = false := decide_eq_false (by omega)
  have rb : decide ((7 : Int) < (p.dn : Int)) = false := decide_eq_false (by omega)
  have rc : decide (7 < p.dn) = false := decide_eq_false (by omega)
  have HH : Hid (p.dn ≤ 7) := h1
  by_cases h2 : p.wn ≤ 20
  ·skip
   have sa : decide ((p.wn : Int) > 20) = false := decide_eq_false (by omega)
   have sb : decide ((20 : Int) < (p.wn : Int)) = false := decide_eq_false (by omega)
   have sc : decide (20 < p.wn) = false := decide_eq_false (by omega)
   by_cases h3 : p.cn ≤ 70
   ·skip
    have za : decide ((p.cn : Int) > 70) = false := decide_eq_false (by omega)
    have zb : decide ((70 : Int) < (p.cn : Int)) = false := decide_eq_false (by omega)
    have zc : decide (70 < p.cn) = false := decide_eq_false (by omega)
    clear h1 h2 h3
    go_wp2_with fail
    clear v0 v1 v2 v3 v4 v5 v6 v7 v8 v9 ra rb rc sa sb sc za zb zc
    go_loopw [7] (fun i y => ∃ k : Nat, k ≤ p.wn ∧ i = .int .i64 k ∧ Hid (Grew w1 y)) (fun i _ => p.wn - (intOf i).toNat)
    case atStart => exact ⟨0, Nat.zero_le _, rfl, Grew.refl _⟩
    case round =>
     obtain ⟨k, hk, rfl, HR⟩ := hrel
     have v4 : wr.cell? ⟨tb, 4, none⟩ = some (.slice p.W p.wn p.wc) := HR.out.cell (X1.out.cell rfl)
     by_cases hlt : k < p.wn
     ·have e0 : decide ((k : Int) < (p.wn : Int)) = true := decide_eq_true (by omega)
      obtain ⟨b, o, x, hA, hx, ⟨c0, c1, c2, c3, c4⟩, _⟩ := ((HP.out.grew HG1.out).grew HR.out).ws.at_ hlt
      have e1 : (0 : Int) ≤ (k : Int) := by omega
      have e2 : (k : Int) < (p.wn : Int) := by omega
      by_cases h4 : x.n ≤ 420
      ·skip
       have ua : decide ((x.n : Int) > 420) = false := decide_eq_false (by omega)
       have ub : decide ((420 : Int) < (x.n : Int)) = false := decide_eq_false (by omega)
       have uc : decide (420 < x.n) = false := decide_eq_false (by omega)
       rw [hA] at v4
       clear h4
       go_wp2_with fail
       go_roundw
       case rel => exact ⟨k + 1, by omega, by go_num, HR⟩
       case measure => simp [intOf]; omega
      ·skip
       have ua : decide ((x.n : Int) > 420) = true := decide_eq_true (by omega)
       have ub : decide ((420 : Int) < (x.n : Int)) = true := decide_eq_true (by omega)
       have uc : decide (420 < x.n) = true := decide_eq_true (by omega)
       rw [hA] at v4
       clear h4
       go_wp2
       go_ret
       exact ⟨_, rfl, fun h => (by cases h), HG1.out.trans HR.out⟩
     ·obtain rfl : k = p.wn := by omega
      have e0 : decide ((p.wn : Int) < (p.wn : Int)) = false := decide_eq_false (by omega)
      go_wp2
      go_ret
      exact ⟨_, rfl, fun _ => HH.out, HG1.out.trans HR.out⟩
   ·skip
    have za : decide ((p.cn : Int) > 70) = true := decide_eq_true (by omega)
    have zb : decide ((70 : Int) < (p.cn : Int)) = true := decide_eq_true (by omega)
    have zc : decide (70 < p.cn) = true := decide_eq_true (by omega)
    clear h1 h2 h3
    go_wp2
    go_ret
    exact ⟨_, rfl, fun h => (by cases h), HG1.out⟩
  ·skip
   have sa : decide ((p.wn : Int) > 20) = true := decide_eq_true (by omega)
   have sb : decide ((20 : Int) < (p.wn : Int)) = true := decide_eq_true (by omega)
   have sc : decide (20 < p.wn) = true := decide_eq_true (by omega)
   clear h1 h2
   go_wp2
   go_ret
   exact ⟨_, rfl, fun h => (by cases h), HG1.out⟩
 ·skip
  have ra : decide ((p.dn : Int) > 7) = true := decide_eq_true (by omega)
  have rb : decide ((7 : Int) < (p.dn : Int)) = true := decide_eq_true (by omega)
  have rc : decide (7 < p.dn) = true := decide_eq_true (by omega)
  clear h1
  go_wp2
  go_ret
  exact ⟨_, rfl, fun h => (by cases h), HG1.out⟩
set_option maxRecDepth 100000 in
set_option maxHeartbeats 16000000 in
theorem law6 {w : World} {p : Pl} {bound : Int} {PA : Option Addr} {pn pc : Nat} {bs : List UInt8} (hp : PlanAt w p) (hi : Bytes w PA pn pc bs) :
  Calls Tryz.prog 6 #[planV p, .int .i64 bound, .slice PA pn pc] w fun e w' => e = .returned (.bool true) ∧ Grew w w' := by
 obtain ⟨i9, hi9, hz0, hz1, hz2⟩ := info_parts info69
 have HP := Lib.hid hp
 have HI := Lib.hid hi
 have dn9 : p.dn ≤ 9223372036854775807 := hp.ds.1.le
 have pn9 : pn ≤ 9223372036854775807 := Nat.le_trans hi.2.1 hi.2.2.1
 have HBL : Hid (bs.length = pn) := hi.1
 clear hp hi
 show Calls Tryz.prog 6 #[.agg #[.string p.nm, .int .i64 p.zb, .slice p.C p.cn p.cc, .slice p.D p.dn p.dc, .slice p.W p.wn p.wc, .int .i64 p.lm.rest, .int .i64 p.lm.week, .int .i64 p.lm.nf, .int .i64 p.lm.nt, .int .i64 p.lm.mn], .int .i64 bound, .slice PA pn pc] w _
 obtain ⟨w1, hw1⟩ : ∃ y, y = w.alloc (.cells #[.string p.nm, .int .i64 p.zb, .slice p.C p.cn p.cc, .slice p.D p.dn p.dc, .slice p.W p.wn p.wc, .int .i64 p.lm.rest, .int .i64 p.lm.week, .int .i64 p.lm.nf, .int .i64 p.lm.nt, .int .i64 p.lm.mn] 32) := ⟨_, rfl⟩
 obtain ⟨tb, htb⟩ : ∃ z, z = w.heap.size := ⟨_, rfl⟩
 have g1 : Grew w w1 := by rw [hw1]; exact (Grew.refl w).alloc _
 have X1 : Hid (Blk w1 tb 32 (planC p)) := by unfold Hid; rw [hw1, htb]; exact Blk.new w 32 (planC p)
 have HG1 := Lib.hid g1
 clear g1
 go_enter Tryz.func6, Tryz.ntmps6
 go_upto_region 1 with (fail)
 rw [← hw1, ← htb]
 clear hw1 htb
 go_wp2_with fail
 refine (head22 w1).mono ?_
 rintro r w2 ⟨rfl, g2⟩
 have X2 := Lib.hid (X1.out.grew g2)
 have HG2 := Lib.hid (HG1.out.trans g2)
 clear g2 X1 HG1
 have v0 : w2.cell? ⟨tb, 0, none⟩ = some (.string p.nm) := X2.out.cell rfl
 have v1 : w2.cell? ⟨tb, 1, none⟩ = some (.int .i64 p.zb) := X2.out.cell rfl
 have v2 : w2.cell? ⟨tb, 2, none⟩ = some (.slice p.C p.cn p.cc) := X2.out.cell rfl
 have v3 : w2.cell? ⟨tb, 3, none⟩ = some (.slice p.D p.dn p.dc) := X2.out.cell rfl
 have v4 : w2.cell? ⟨tb, 4, none⟩ = some (.slice p.W p.wn p.wc) := X2.out.cell rfl
 have v5 : w2.cell? ⟨tb, 5, none⟩ = some (.int .i64 p.lm.rest) := X2.out.cell rfl
 have v6 : w2.cell? ⟨tb, 6, none⟩ = some (.int .i64 p.lm.week) := X2.out.cell rfl
 have v7 : w2.cell? ⟨tb, 7, none⟩ = some (.int .i64 p.lm.nf) := X2.out.cell rfl
 have v8 : w2.cell? ⟨tb, 8, none⟩ = some (.int .i64 p.lm.nt) := X2.out.cell rfl
 have v9 : w2.cell? ⟨tb, 9, none⟩ = some (.int .i64 p.lm.mn) := X2.out.cell rfl
 go_wp2_with fail
 refine (small23 (HP.out.grew HG2.out)).mono ?_
 rintro r w3 ⟨t1, rfl, hs1, g3⟩
 have X3 := Lib.hid (X2.out.grew g3)
 have HG3 := Lib.hid (HG2.out.trans g3)
 clear v0 v1 v2 v3 v4 v5 v6 v7 v8 v9 g3 X2 HG2
 cases t1 with
 | false =>
  have HGE := HG3
  go_wp2
  go_ret
  exact ⟨rfl, HGE.out⟩
 | true =>
  have hd7 := hs1 rfl
  clear hs1
  have v0 : w3.cell? ⟨tb, 0, none⟩ = some (.string p.nm) := X3.out.cell rfl
  have v1 : w3.cell? ⟨tb, 1, none⟩ = some (.int .i64 p.zb) := X3.out.cell rfl
  have v2 : w3.cell? ⟨tb, 2, none⟩ = some (.slice p.C p.cn p.cc) := X3.out.cell rfl
  have v3 : w3.cell? ⟨tb, 3, none⟩ = some (.slice p.D p.dn p.dc) := X3.out.cell rfl
  have v4 : w3.cell? ⟨tb, 4, none⟩ = some (.slice p.W p.wn p.wc) := X3.out.cell rfl
  have v5 : w3.cell? ⟨tb, 5, none⟩ = some (.int .i64 p.lm.rest) := X3.out.cell rfl
  have v6 : w3.cell? ⟨tb, 6, none⟩ = some (.int .i64 p.lm.week) := X3.out.cell rfl
  have v7 : w3.cell? ⟨tb, 7, none⟩ = some (.int .i64 p.lm.nf) := X3.out.cell rfl
  have v8 : w3.cell? ⟨tb, 8, none⟩ = some (.int .i64 p.lm.nt) := X3.out.cell rfl
  have v9 : w3.cell? ⟨tb, 9, none⟩ = some (.int .i64 p.lm.mn) := X3.out.cell rfl
  go_wp2_with fail
  refine (rv24 p w3 (HP.out.grew HG3.out)).mono ?_
  rintro r w4 ⟨t2, rfl, hs2, g4⟩
  have X4 := Lib.hid (X3.out.grew g4)
  have HG4 := Lib.hid (HG3.out.trans g4)
  clear v0 v1 v2 v3 v4 v5 v6 v7 v8 v9 g4 X3 HG3
  cases t2 with
  | false =>
   have HGE := HG4
   go_wp2
   go_ret
   exact ⟨rfl, HGE.out⟩
  | true =>
   have HOK := Lib.hid (hs2 rfl)
   have wn12 : p.wn ≤ 12 := (dn_le HOK.out).2
   clear hs2
   have v3 : w4.cell? ⟨tb, 3, none⟩ = some (.slice p.D p.dn p.dc) := X4.out.cell rfl
   by_cases hpl : pn < p.dn
   ·have q1 : decide ((pn : Int) < (p.dn : Int)) = true := decide_eq_true (by omega)
    have q2 : decide (pn < p.dn) = true := decide_eq_true hpl
    have HGE := HG4
    go_wp2
    go_ret
    exact ⟨rfl, HGE.out⟩
   ·have q1 : decide ((pn : Int) < (p.dn : Int)) = false := decide_eq_false (by omega)
    have q2 : decide (pn < p.dn) = false := decide_eq_false hpl
    go_upto_region 4 with (fail)
    clear v3 q1 q2
    have v0 : w4.cell? ⟨tb, 0, none⟩ = some (.string p.nm) := X4.out.cell rfl
    have v1 : w4.cell? ⟨tb, 1, none⟩ = some (.int .i64 p.zb) := X4.out.cell rfl
    have v2 : w4.cell? ⟨tb, 2, none⟩ = some (.slice p.C p.cn p.cc) := X4.out.cell rfl
    have v3 : w4.cell? ⟨tb, 3, none⟩ = some (.slice p.D p.dn p.dc) := X4.out.cell rfl
    have v4 : w4.cell? ⟨tb, 4, none⟩ = some (.slice p.W p.wn p.wc) := X4.out.cell rfl
    have v5 : w4.cell? ⟨tb, 5, none⟩ = some (.int .i64 p.lm.rest) := X4.out.cell rfl
    have v6 : w4.cell? ⟨tb, 6, none⟩ = some (.int .i64 p.lm.week) := X4.out.cell rfl
    have v7 : w4.cell? ⟨tb, 7, none⟩ = some (.int .i64 p.lm.nf) := X4.out.cell rfl
    have v8 : w4.cell? ⟨tb, 8, none⟩ = some (.int .i64 p.lm.nt) := X4.out.cell rfl
    have v9 : w4.cell? ⟨tb, 9, none⟩ = some (.int .i64 p.lm.mn) := X4.out.cell rfl
    go_wp2_with fail
    refine (base25 (HP.out.grew HG4.out) HOK.out hd7).mono ?_
    rintro r w5 ⟨GA, n, gc, base, rfl, hlog, hln, hn2, g5⟩
    obtain ⟨log, hlg⟩ : ∃ l, baseF (envP p) = l := ⟨_, rfl⟩
    rw [hlg] at hlog hln
    have HLB := Lib.hid hlg
    have HLN := Lib.hid hln
    have hlr := LgRd.of_log hlog hln
    obtain ⟨qs, hrec, hql, hst⟩ := hlr
    have HLG : Hid (LgRd w5 GA n gc log) := ⟨qs, hrec, hql, hst⟩
    have HRC := Lib.hid hrec
    have HQL : Hid (qs.length = n) := by unfold Hid; rw [hql, hln]
    have HST := Lib.hid hst
    have X5 := Lib.hid (X4.out.grew g5)
    have HG5 := Lib.hid (HG4.out.trans g5)
    clear v0 v1 v2 v3 v4 v5 v6 v7 v8 v9 hlog hln hrec hql hst g5 X4 HG4 hlg
    go_wp2_with fail
    go_loopw [9, 40] (fun v i y => ∃ (k c : Nat) (A : Option Addr), k ≤ n ∧ i = .int .i64 k ∧ v = .slice A k c ∧ Hid (y.ownsRow w5.heap.size 69 1 (.slice A k c) k ((qs.take k).map (fun q => pcV q.cl))) ∧ Hid (Grew w5 y)) (fun _ i _ => n - (intOf i).toNat)
    case atStart => exact ⟨0, 0, none, Nat.zero_le _, rfl, rfl, World.ownsRow_nil _ _ _ _, Grew.refl _⟩
    case round =>
     obtain ⟨k, c, A, hk, rfl, rfl, HO, HR⟩ := hrel
     by_cases hlt : k < n
     ·obtain ⟨b, o, q, hA, hq, hr⟩ := (HRC.out.grew HR.out).at_ encQ_ok hlt
      have c0 := hr 0 _ rfl
      have c1 := hr 1 _ rfl
      have c2 := hr 2 _ rfl
      have HTK : Hid ((qs.take (k + 1)).map (fun q => pcV q.cl) = (qs.take k).map (fun q => pcV q.cl) ++ [pcV q.cl]) := by unfold Hid; rw [List.take_add_one, hq, Option.toList, List.map_append]; rfl
      obtain ⟨⟨QA, qn, qc⟩, qru, ⟨FA, fn, fc⟩⟩ := q
      replace c0 : wr.cell? ⟨b, o + k * 3, none⟩ = some (.slice QA qn qc) := c0
      replace c1 : wr.cell? ⟨b, o + k * 3 + 1, none⟩ = some (.int .i64 qru) := c1
      replace c2 : wr.cell? ⟨b, o + k * 3 + 2, none⟩ = some (.slice FA fn fc) := c2
      have e0 : decide ((k : Int) < (n : Int)) = true := decide_eq_true (by omega)
      have e1 : (0 : Int) ≤ (k : Int) := by omega
      have e2 : (k : Int) < (n : Int) := by omega
      subst hA
      obtain ⟨wa, hwa⟩ : ∃ y, y = wr.alloc (.cells #[.slice QA qn qc, .int .i64 qru, .slice FA fn fc] 71) := ⟨_, rfl⟩
      obtain ⟨ba, hba⟩ : ∃ z, z = wr.heap.size := ⟨_, rfl⟩
      have HBA : Hid (Blk wa ba 71 [.slice QA qn qc, .int .i64 qru, .slice FA fn fc]) := by unfold Hid; rw [hwa, hba]; exact Blk.new wr 71 _
      have ga : Grew wr wa := by rw [hwa]; exact (Grew.refl wr).alloc _
      go_upto_region 9 with (fail)
      rw [← hwa, ← hba]
      have HOa := Lib.hid (own_grew HO.out ga)
      have HRa := Lib.hid (HR.out.trans ga)
      have Xa := Lib.hid ((X5.out.grew HR.out).grew ga)
      clear hwa hba c0 c1 c2 hq hr e0 ga HO HR
      have HFO : Hid (folB p bound log k = true) := by
       obtain ⟨s, hs⟩ : ∃ s, log[k]? = some s := ⟨_, List.getElem?_eq_getElem (by rw [HLN.out]; exact hlt)⟩
       unfold Hid
       rw [folB_at hs]
       exact base_follows (base_is (by rw [HLB.out]; exact List.mem_of_getElem? hs)) bound log k
      have r1 : decide ((n : Int) > 20000) = false := decide_eq_false (by omega)
      have r2 : decide ((20000 : Int) < (n : Int)) = false := decide_eq_false (by omega)
      have r3 : decide (20000 < n) = false := decide_eq_false (by omega)
      have v0 : wa.cell? ⟨tb, 0, none⟩ = some (.string p.nm) := Xa.out.cell rfl
      have v1 : wa.cell? ⟨tb, 1, none⟩ = some (.int .i64 p.zb) := Xa.out.cell rfl
      have v2 : wa.cell? ⟨tb, 2, none⟩ = some (.slice p.C p.cn p.cc) := Xa.out.cell rfl
      have v3 : wa.cell? ⟨tb, 3, none⟩ = some (.slice p.D p.dn p.dc) := Xa.out.cell rfl
      have v4 : wa.cell? ⟨tb, 4, none⟩ = some (.slice p.W p.wn p.wc) := Xa.out.cell rfl
      have v5 : wa.cell? ⟨tb, 5, none⟩ = some (.int .i64 p.lm.rest) := Xa.out.cell rfl
      have v6 : wa.cell? ⟨tb, 6, none⟩ = some (.int .i64 p.lm.week) := Xa.out.cell rfl
      have v7 : wa.cell? ⟨tb, 7, none⟩ = some (.int .i64 p.lm.nf) := Xa.out.cell rfl
      have v8 : wa.cell? ⟨tb, 8, none⟩ = some (.int .i64 p.lm.nt) := Xa.out.cell rfl
      have v9 : wa.cell? ⟨tb, 9, none⟩ = some (.int .i64 p.lm.mn) := Xa.out.cell rfl
      go_wp2_with fail
      refine (step26 (HP.out.grew (HG5.out.trans HRa.out)) HOK.out (HLG.out.grew HRa.out) (by rw [← HLB.out]; exact base_small (show p.wn ≤ 12 from wn12)) hn2 hlt HFO.out).mono ?_
      rintro r wb ⟨rfl, gb⟩
      have HOb := Lib.hid (own_grew HOa.out gb)
      have HRb := Lib.hid (HRa.out.trans gb)
      have u0 : wb.cell? ⟨ba, 0, none⟩ = some (.slice QA qn qc) := gb.cell (HBA.out.cell rfl)
      clear v0 v1 v2 v3 v4 v5 v6 v7 v8 v9 r1 r2 r3 gb HOa HRa Xa HBA HFO
      obtain ⟨wy, hwy⟩ : ∃ y, y = wb.alloc (.cells #[.slice QA qn qc] 69) := ⟨_, rfl⟩
      have gy : Grew wb wy := by rw [hwy]; exact (Grew.refl wb).alloc _
      have BV : Hid (Sl wy 1 (some ⟨wb.heap.size, 0, none⟩) 1 1 [.slice QA qn qc]) := by unfold Hid; rw [hwy]; exact builtS (w := wb) (t := 69) 1 1 #[.slice QA qn qc] _ rfl rfl (by decide)
      have HOy := Lib.hid (own_grew HOb.out gy)
      have HRy := Lib.hid (HRb.out.trans gy)
      clear HOb HRb gy
      go_upto_region 12 with (at_builtin; rw [← hwy]; refine wpList_append_sl _ rfl (.tmp 56) (.tmp 59) 68 rfl w5.heap.size 69 i9 (.slice none 0 0) 1 24 Tryz.underlying68 hi9 hz0 hz1 hz2 rfl (by decide) (.slice A k c) k _ rfl HOy.out (some ⟨wb.heap.size, 0, none⟩) 1 1 _ rfl BV.out (by intro u hu; rw [List.mem_singleton.1 hu]; rfl) (by unfold maxLen; omega) (by omega) HRy.out.le ?_; intro v7 w7 own7 hg7 hat7; obtain ⟨A7, c7, rfl⟩ := own_form own7)
      have HO7 : Hid (w7.ownsRow w5.heap.size 69 1 (.slice A7 (k + 1) c7) (k + 1) ((qs.take (k + 1)).map (fun q => pcV q.cl))) := by unfold Hid; rw [HTK.out]; exact own7
      have HR7 := Lib.hid (HRy.out.grown hg7 (fun j hj => (HOy.out.lt j hj).1))
      clear hwy own7 hg7 hat7 HOy HRy BV u0 HTK
      go_wp2_with fail
      go_roundw
      case rel => exact ⟨k + 1, c7, A7, by omega, by go_num, rfl, HO7, HR7⟩
      case measure => simp [intOf]; omega
     ·obtain rfl : k = n := by omega
      have e0 : decide ((k : Int) < (k : Int)) = false := decide_eq_false (by omega)
      have HCL : Hid (ClsAt wr A k (log.map (·.cl))) := by
       have h1 := HO.out
       rw [List.take_of_length_le (by rw [HQL.out]; exact Nat.le_refl _)] at h1
       exact ClsAt.of h1 HQL.out (fun i q s h1 h2 => (HST.out i q s h1 h2).grew HR.out) HLN.out (by rw [← HLB.out]; exact base_small (show p.wn ≤ 12 from wn12))
      have HGr := Lib.hid (HG5.out.trans HR.out)
      have Xr := Lib.hid (X5.out.grew HR.out)
      clear HO HR HLG HRC HST
      go_wp2_with fail
      refine (unit27 HCL.out hn2).mono ?_
      rintro r w6 ⟨v, at_, rfl, hun, g6⟩
      have HUN : Hid (UnitR ((baseF (envP p)).map (·.cl)) at_) := by unfold Hid; rw [HLB.out]; exact hun
      have HG6 := Lib.hid (HGr.out.trans g6)
      have X6 := Lib.hid (Xr.out.grew g6)
      clear hun g6 HGr Xr HCL e0
      have v4 : w6.cell? ⟨tb, 4, none⟩ = some (.slice p.W p.wn p.wc) := X6.out.cell rfl
      have v3 : w6.cell? ⟨tb, 3, none⟩ = some (.slice p.D p.dn p.dc) := X6.out.cell rfl
      by_cases h0 : p.wn = 0
      ·have z1 : ((p.wn : Int) == 0) = true := by simp; omega
       have z2 : (p.wn == 0) = true := by simp; omega
       have hiff := base_cl_none (E := envP p) h0 HUN.out
       have hiff2 : (0 ≤ at_ ↔ 0 < p.dn) := hiff
       obtain ⟨tt, htt⟩ : ∃ z, decide (at_ ≥ 0) = z := ⟨_, rfl⟩
       have y1 : decide ((0 : Int) ≤ at_) = tt := htt
       have y2 : decide ((p.dn : Int) > 0) = tt := by rw [← htt, Bool.eq_iff_iff, decide_eq_true_eq, decide_eq_true_eq]; exact ⟨fun h => hiff2.2 (by omega), fun h => by have := hiff2.1 h; omega⟩
       have y3 : decide ((0 : Int) < (p.dn : Int)) = tt := y2
       have y4 : decide (0 < p.dn) = tt := by rw [← y2, Bool.eq_iff_iff, decide_eq_true_eq, decide_eq_true_eq]; omega
       have y5 : (tt == tt) = true := by cases tt <;> rfl
       clear hiff hiff2 h0
       go_wp2_with fail
       go_ret
       exact ⟨rfl, HG6.out⟩
      ·have z1 : ((p.wn : Int) == 0) = false := by simp; omega
       have z2 : (p.wn == 0) = false := by simp; omega
       obtain ⟨wm, hmk, hown, gm⟩ := make_full w.heap.size p.dn (by omega) w6 HG6.out.le
       obtain ⟨rb, hrb⟩ : ∃ z, z = w6.heap.size := ⟨_, rfl⟩
       rw [← hrb] at hmk hown
       have HRB : Hid (w.heap.size ≤ rb) := by unfold Hid; rw [hrb]; exact HG6.out.le
       have HTB : Hid (tb ≠ rb) := by unfold Hid; have := X6.out.lt; omega
       have HOW := Lib.hid hown
       have HGM := Lib.hid (HG6.out.trans gm)
       have XM := Lib.hid (X6.out.grew gm)
       clear hown gm hrb HG6 X6
       go_upto_region 17 with (fail)
       clear hmk v3 v4 z1 z2
       go_wp2_with fail
       go_loopw [87] (fun i y => ∃ (j : Nat) (xs : List Int), j ≤ p.dn ∧ i = .int .i64 j ∧ Hid (xs.length = p.dn ∧ ∀ x ∈ xs, 0 ≤ x ∧ x < (p.wn : Int)) ∧ Hid (y.ownsRow w.heap.size 3 1 (.slice (some ⟨rb, 0, none⟩) p.dn p.dn) p.dn (xs.map iv)) ∧ Hid (Blk y tb 32 (planC p)) ∧ Hid (Grew w y)) (fun i _ => p.dn - (intOf i).toNat)
       case atStart => exact ⟨0, List.replicate p.dn 0, Nat.zero_le _, rfl, ⟨List.length_replicate, fun x hx => by have := List.eq_of_mem_replicate hx; omega⟩, HOW.out, XM.out, HGM.out⟩
       case round =>
        clear HOW XM HGM
        obtain ⟨j, xs, hj, rfl, HX, OW, HT, HR⟩ := hrel
        by_cases hlt : j < p.dn
        ·have e0 : decide ((j : Int) < (p.dn : Int)) = true := decide_eq_true (by omega)
         have v4 : wr.cell? ⟨tb, 4, none⟩ = some (.slice p.W p.wn p.wc) := HT.out.cell rfl
         obtain ⟨b, o, hA, hcc⟩ := (HI.out.grew HR.out).at_ (by omega)
         obtain ⟨u, hu⟩ : ∃ u, bs[j]? = some u := ⟨_, List.getElem?_eq_getElem (by rw [HBL.out]; omega)⟩
         have cu := hcc j u hu
         have hu9 : u.toNat < 256 := u.toNat_lt
         obtain ⟨xN, hxN⟩ : ∃ z : Int, (u.toNat : Int) = z := ⟨_, rfl⟩
         have hxb : 0 ≤ xN ∧ xN < 256 := by omega
         rw [hxN] at cu
         obtain ⟨x, hx⟩ : ∃ x, xs[j]? = some x := ⟨_, List.getElem?_eq_getElem (by rw [HX.out.1]; exact hlt)⟩
         obtain ⟨M, hM⟩ : ∃ M, xN.tmod (p.wn : Int) = M := ⟨_, rfl⟩
         have hMb : 0 ≤ M ∧ M < (p.wn : Int) := by rw [← hM]; exact ⟨Int.tmod_nonneg _ hxb.1, Int.tmod_lt_of_pos _ (by omega)⟩
         have m1 : IntKind.i64.wrap M = M := IntWalk.i64_in _ (by omega)
         have m2 : IntKind.i64.wrap xN = xN := IntWalk.i64_in _ (by omega)
         have y1 : ((p.wn : Int) == 0) = false := by simp; omega
         have y2 : (p.wn : Int) ≠ 0 := by omega
         have y3 : (p.wn : Int) ≠ -1 := by omega
         have y4 : p.wn ≠ 0 := by omega
         have e1 : (0 : Int) ≤ (j : Int) := by omega
         have e2 : (j : Int) < (p.dn : Int) := by omega
         have e3 : (j : Int) < (pn : Int) := by omega
         have c0 := (OW.out.cellAt j (by omega)).trans (show (xs.map iv)[j]? = some (.int .i64 x) by rw [List.getElem?_map, hx]; rfl)
         subst hA
         have hC : ∀ w', Grew wr w' → w'.cell? ⟨tb, 4, none⟩ = some (.slice p.W p.wn p.wc) ∧ w'.cell? ⟨b, o + j, none⟩ = some (.int .u8 xN) := fun w' g' => ⟨g'.cell v4, g'.cell cu⟩
         have HC := Lib.hid hC
         have HCX := Lib.hid hx
         have HMB := Lib.hid hMb
         clear hC cu v4 hcc hu hxN hu9 hx hMb c0
         go_upto_region 20 with (fail)
         refine wp_region_G (by kernel_rfl) Grew.refl 12 ?_
         refine wpAnyG_takes Grew.refl (fun _ _ _ => Grew.trans) (fun _ _ _ _ _ h => h) [0, 1, 2, 3, 4, 5, 6, 7, 8, 9, 10, 11] (fuel' := 1) (by kernel_rfl) (by kernel_rfl) (by simp only [pickOps, ugT, ug0, ug1]; rfl) ?_
         repeat (first
          | (refine TakeAll.pure (v := ?_) (by rfl) ?_ ?_; rotate_left; (intro w' g'; obtain ⟨q_0, q_1⟩ := HC.out w' ((Grew.refl wr).drew.trans g'); go_simp; first | done | with_reducible rfl); (simp only [Act.put, uzT, uz0, uz1]))
          | (refine TakeAll.skip (by rfl) ?_; (simp only [Act.put, uzT, uz0, uz1])))
         refine TakeAll.nil ?_
         refine wpAnyG_end (by kernel_rfl) (fuel' := 0) (by kernel_rfl) (by simp only [pickOps, ugT, ug0, ug1]; rfl) rfl ?_
         intro w8 g8 K hK
         have G8 := (Grew.refl wr).drew.trans g8
         have OW8 := Lib.hid (own_grew OW.out G8)
         have HT8 := Lib.hid (HT.out.grew G8)
         have HR8 := Lib.hid (HR.out.trans G8)
         clear g8 G8 OW HT HR HC
         have c0 := (OW8.out.cellAt j (by omega)).trans (show (xs.map iv)[j]? = some (.int .i64 x) by rw [List.getElem?_map, HCX.out]; rfl)
         have f0 := OW8.out.frozenAt j
         have OS := OW8.out.stored j (iv M)
         rw [show (xs.map iv).set j (iv M) = (xs.set j M).map iv by rw [List.map_set]] at OS
         have HOS := Lib.hid OS.1
         have HXn : Hid ((xs.set j M).length = p.dn ∧ ∀ x ∈ xs.set j M, 0 ≤ x ∧ x < (p.wn : Int)) := ⟨by rw [List.length_set]; exact HX.out.1, fun y hy => by
          rcases List.mem_or_eq_of_mem_set hy with h | h
          ·exact HX.out.2 y h
          ·subst h; exact HMB.out⟩
         have HTn := Lib.hid (HT8.out.kept OS.2 (fun e => HTB.out (by injection e)))
         have HRn := Lib.hid (HR8.out.grown OS.2 (fun q hq => by injection hq with hq; have := HRB.out; omega))
         obtain ⟨wn, hwn⟩ : ∃ y, y = w8.setCell ⟨rb, j, none⟩ (iv M) := ⟨_, rfl⟩
         rw [← hwn] at HOS HTn HRn
         have hwn' : wn = w8.setCell ⟨rb, j, none⟩ (.int .i64 M) := hwn
         clear OS OW8 HT8 HR8 HX hwn
         go_simp
         rw [← hwn']
         refine hK _ _ ?_
         clear hK K c0 f0 hwn'
         refine wpAny_rest (fun _ _ _ _ _ h => h) [] (by kernel_rfl) (by kernel_rfl) (by kernel_rfl) rfl (TakeAll.nil ?_)
         try simp only [Act.put, uzT, uz0, uz1]
         go_wp2_with fail
         go_roundw
         case rel => exact ⟨j + 1, xs.set j M, by omega, by go_num, HXn, HOS, HTn, HRn⟩
         case measure => simp [intOf]; omega
        ·obtain rfl : j = p.dn := by omega
         have e0 : decide ((p.dn : Int) < (p.dn : Int)) = false := decide_eq_false (by omega)
         have HIN : Hid (Ints wr (some ⟨rb, 0, none⟩) p.dn p.dn xs) := Ints.own HX.out.1 OW.out
         have HFU : Hid (Full (envP p) xs) := ⟨HX.out.1, HX.out.2⟩
         have v0 : wr.cell? ⟨tb, 0, none⟩ = some (.string p.nm) := HT.out.cell rfl
         have v1 : wr.cell? ⟨tb, 1, none⟩ = some (.int .i64 p.zb) := HT.out.cell rfl
         have v2 : wr.cell? ⟨tb, 2, none⟩ = some (.slice p.C p.cn p.cc) := HT.out.cell rfl
         have v3 : wr.cell? ⟨tb, 3, none⟩ = some (.slice p.D p.dn p.dc) := HT.out.cell rfl
         have v4 : wr.cell? ⟨tb, 4, none⟩ = some (.slice p.W p.wn p.wc) := HT.out.cell rfl
         have v5 : wr.cell? ⟨tb, 5, none⟩ = some (.int .i64 p.lm.rest) := HT.out.cell rfl
         have v6 : wr.cell? ⟨tb, 6, none⟩ = some (.int .i64 p.lm.week) := HT.out.cell rfl
         have v7 : wr.cell? ⟨tb, 7, none⟩ = some (.int .i64 p.lm.nf) := HT.out.cell rfl
         have v8 : wr.cell? ⟨tb, 8, none⟩ = some (.int .i64 p.lm.nt) := HT.out.cell rfl
         have v9 : wr.cell? ⟨tb, 9, none⟩ = some (.int .i64 p.lm.mn) := HT.out.cell rfl
         go_wp2_with fail
         refine (bad18 (HP.out.grew HR.out) HOK.out HIN.out (ros_full HFU.out)).mono ?_
         rintro r wz ⟨VA, vm, vc, rfl, hvz, gz⟩
         have HGE := Lib.hid (HR.out.trans gz)
         have hbad : ¬ at_ < 0 → vm ≠ 0 := fun h e => by
          have h1 := base_cl_some (env_ok HP.out HOK.out) HUN.out (by omega) HFU.out
          rw [hvz.1 e] at h1
          cases h1
         clear v0 v1 v2 v3 v4 v5 v6 v7 v8 v9 hvz gz e0
         by_cases hat : at_ < 0
         ·have q1 : decide (at_ < 0) = true := decide_eq_true hat
          clear hat hbad
          go_wp2
          go_ret
          exact ⟨rfl, HGE.out⟩
         ·have hvm := hbad hat
          have q1 : decide (at_ < 0) = false := decide_eq_false hat
          have q2 : decide ((vm : Int) > 0) = true := decide_eq_true (by omega)
          have q3 : decide ((0 : Int) < (vm : Int)) = true := decide_eq_true (by omega)
          have q4 : decide (0 < vm) = true := decide_eq_true (by omega)
          clear hat hbad hvm
          go_wp2
          go_ret
          exact ⟨rfl, HGE.out⟩
end Go.Proofs.YtnnbibmmofnkdaaGreat
