/-
 TopPlanPunched: the law, walked.
-/
import Derived.Test.YtnnbibmmofnkdaaGreatPunF
import Derived.Test.YtnnbibmmofnkdaaGreatPunH
namespace Go.Proofs.YtnnbibmmofnkdaaGreat
open Go.RowKit Go.Proofs WageMem WageReg WageRec WageSpan WageTop
theorem solve_errp (E : Env) (fuel : Int) : (solve E fuel).2.2.2 = 0 ∨ (solve E fuel).2.2.2 = 171 ∨ (solve E fuel).2.2.2 = 201 := by
 unfold solve
 split
 ·exact .inr (.inr rfl)
 ·split
  ·exact .inr (.inl rfl)
  split
  ·exact .inl rfl
  split
  ·exact .inr (.inr rfl)
  ·exact .inl rfl
set_option maxRecDepth 100000 in
set_option maxHeartbeats 16000000 in
theorem law7 {w : World} {p : Pl} (hp : PlanAt w p) :
  Calls Tryz.prog 7 #[planV p] w fun e w' => e = .returned (.bool true) ∧ Grew w w' := by
 have HP := Lib.hid hp
 have hwl := hp.ws.le
 have HWL : Hid (p.ws.length = p.wn) := hp.ws.len
 have HDL : Hid (p.ds.length = p.dn) := hp.ds.len
 clear hp
 show Calls Tryz.prog 7 #[.agg #[.string p.nm, .int .i64 p.zb, .slice p.C p.cn p.cc, .slice p.D p.dn p.dc, .slice p.W p.wn p.wc, .int .i64 p.lm.rest, .int .i64 p.lm.week, .int .i64 p.lm.nf, .int .i64 p.lm.nt, .int .i64 p.lm.mn]] w _
 obtain ⟨w1, hw1⟩ : ∃ y, y = w.alloc (.cells #[.string p.nm, .int .i64 p.zb, .slice p.C p.cn p.cc, .slice p.D p.dn p.dc, .slice p.W p.wn p.wc, .int .i64 p.lm.rest, .int .i64 p.lm.week, .int .i64 p.lm.nf, .int .i64 p.lm.nt, .int .i64 p.lm.mn] 32) := ⟨_, rfl⟩
 obtain ⟨tb, htb⟩ : ∃ z, z = w.heap.size := ⟨_, rfl⟩
 have g1 : Grew w w1 := by rw [hw1]; exact (Grew.refl w).alloc _
 have X1 : Hid (Blk w1 tb 32 (planC p)) := by unfold Hid; rw [hw1, htb]; exact Blk.new w 32 (planC p)
 have HG1 := Lib.hid g1
 clear g1
 go_enter Tryz.func7, Tryz.ntmps7
 go_upto_region 1 with (fail)
 rw [← hw1, ← htb]
 clear hw1 htb
 go_wp2_with fail
 refine (plan8 w1).mono ?_
 rintro r w2 ⟨rfl, g2⟩
 have X2 := Lib.hid (X1.out.grew g2)
 have HG2 := Lib.hid (HG1.out.trans g2)
 clear g2 X1 HG1
 have v0 : w2.cell? ⟨tb, 0, none⟩ = some (.string p.nm) := X2.out.cell rfl
 have v1 : w2.cell? ⟨tb, 1, none⟩ = some (.int .i64 p.zb) := X2.out.cell rfl
 have v2 : w2.cell? ⟨tb, 2, none⟩ = some (.slice p.C p.cn p.cc) := X2.out.cell rfl
 have v3 : w2.cell? ⟨tb, 3, none⟩ = some (.slice p.D p.dn p.dc) := X2.out.cell rfl
 have v4 : w2.cell? ⟨tb, 4, none⟩ = some (.slice p.W p.wn p.wc) := X2.out.cell rfl
 have v5 : w2.cell? ⟨tb, 5, none⟩ = some (.int .i64 p.lm.rest) := X2.out.cell rfl
 have v6 : w2.cell? ⟨tb, 6, none⟩ = some (.int .i64 p.lm.week) := X2.out.cell rfl
 have v7 : w2.cell? ⟨tb, 7, none⟩ = some (.int .i64 p.lm.nf) := X2.out.cell rfl
 have v8 : w2.cell? ⟨tb, 8, none⟩ = some (.int .i64 p.lm.nt) := X2.out.cell rfl
 have v9 : w2.cell? ⟨tb, 9, none⟩ = some (.int .i64 p.lm.mn) := X2.out.cell rfl
 go_wp2_with fail
 refine (tiny9 (HP.out.grew HG2.out)).mono ?_
 rintro r w3 ⟨tn, rfl, htn, g3⟩
 have X3 := Lib.hid (X2.out.grew g3)
 have HG3 := Lib.hid (HG2.out.trans g3)
 have HTN := Lib.hid htn
 clear v0 v1 v2 v3 v4 v5 v6 v7 v8 v9 g3 X2 HG2 htn
 cases tn with
 | false =>
  go_wp2
  go_ret
  exact ⟨rfl, HG3.out⟩
 | true =>
  have HOK : Hid (planB p = true) := (HTN.out rfl).1
  have hd6 : p.dn ≤ 6 := (HTN.out rfl).2.1
  have hw4 : p.wn ≤ 4 := (HTN.out rfl).2.2.1
  clear HTN
  have v0 : w3.cell? ⟨tb, 0, none⟩ = some (.string p.nm) := X3.out.cell rfl
  have v1 : w3.cell? ⟨tb, 1, none⟩ = some (.int .i64 p.zb) := X3.out.cell rfl
  have v2 : w3.cell? ⟨tb, 2, none⟩ = some (.slice p.C p.cn p.cc) := X3.out.cell rfl
  have v3 : w3.cell? ⟨tb, 3, none⟩ = some (.slice p.D p.dn p.dc) := X3.out.cell rfl
  have v4 : w3.cell? ⟨tb, 4, none⟩ = some (.slice p.W p.wn p.wc) := X3.out.cell rfl
  have v5 : w3.cell? ⟨tb, 5, none⟩ = some (.int .i64 p.lm.rest) := X3.out.cell rfl
  have v6 : w3.cell? ⟨tb, 6, none⟩ = some (.int .i64 p.lm.week) := X3.out.cell rfl
  have v7 : w3.cell? ⟨tb, 7, none⟩ = some (.int .i64 p.lm.nf) := X3.out.cell rfl
  have v8 : w3.cell? ⟨tb, 8, none⟩ = some (.int .i64 p.lm.nt) := X3.out.cell rfl
  have v9 : w3.cell? ⟨tb, 9, none⟩ = some (.int .i64 p.lm.mn) := X3.out.cell rfl
  go_wp2_with fail
  refine (solve13 p 4000 w3 (HP.out.grew HG3.out)).mono ?_
  rintro r w4 ⟨BA, bc, GA, gc, rfl, hown, hlog, g4⟩
  have X4 := Lib.hid (X3.out.grew g4)
  have HG4 := Lib.hid (HG3.out.trans g4)
  clear v0 v1 v2 v3 v4 v5 v6 v7 v8 v9 X3 HG3 g4
  have hs : solF p 4000 = solve (envP p) 4000 := by unfold solF; rw [if_pos ⟨HOK.out, by decide, by decide⟩]
  have HER := Lib.hid (solve_errp (envP p) 4000)
  rw [hs] at hown hlog ⊢
  obtain ⟨⟨l, c, lg, e⟩, hs1⟩ : ∃ s, solve (envP p) 4000 = s := ⟨_, rfl⟩
  rw [hs1] at hown hlog HER ⊢
  simp only at hown hlog HER ⊢
  clear hs hlog
  have v4 : w4.cell? ⟨tb, 4, none⟩ = some (.slice p.W p.wn p.wc) := X4.out.cell rfl
  by_cases he : e = 0
  ·subst he
   have HSO := Lib.hid (solved HP.out HOK.out hs1)
   have HI4 : Hid (Ints w4 BA l.length bc l) := Ints.own rfl hown
   have hlen : l.length = p.dn := HSO.out.1.1
   have HLN := Lib.hid hlen
   have HCP : Hid (sumN (payF p l) p.wn = c) := (pay_all HSO.out.1).trans HSO.out.2.2
   have HVP : Hid (∀ k, k < p.wn → violP p k (idxF 0 l (k : Int)) = false) := fun k hk => by
    have := HSO.out.2.1
    unfold violated at this
    have := (List.any_eq_false.1 this) k (List.mem_range.2 hk)
    have h2 : (envP p).viol k (idxF 0 l (k : Int)) = false := by simpa using this
    exact h2
   have HWG : Hid (∀ (k : Nat) x, p.ws[k]? = some x → 0 ≤ x.wg ∧ x.wg ≤ 1000000) := fun k x hx => by
    have := (env_bd HP.out HOK.out).wage k
    rw [wage_envP hx] at this
    exact this
   obtain ⟨ll, hll⟩ : ∃ n, l.length = n := ⟨_, rfl⟩
   rw [hll] at HI4 hlen ⊢
   have HLL := Lib.hid hll
   have hl6 : ll ≤ 6 := by omega
   have HLD := Lib.hid hlen
   clear hs1 hown HER hll hlen
   go_wp2_with fail
   clear v4
   go_loopw [3, 9, 10] (fun up co i y => ∃ (k : Nat) (N : Int), k ≤ p.wn ∧ up = .bool true ∧ i = .int .i64 k ∧ co = .int .i64 N ∧ Hid (sumN (payF p l) k = N) ∧ 0 ≤ N ∧ N ≤ (k : Int) * 10000000000 ∧ Hid (Grew w4 y)) (fun _ _ i _ => p.wn - (intOf i).toNat)
   case atStart => exact ⟨0, 0, Nat.zero_le _, rfl, rfl, rfl, rfl, by omega, by omega, Grew.refl _⟩
   case round =>
    obtain ⟨k, N, hk, rfl, rfl, rfl, HS, hN0, hN1, HR⟩ := hrel
    have Xr := Lib.hid (X4.out.grew HR.out)
    have v0 : wr.cell? ⟨tb, 0, none⟩ = some (.string p.nm) := Xr.out.cell rfl
    have v1 : wr.cell? ⟨tb, 1, none⟩ = some (.int .i64 p.zb) := Xr.out.cell rfl
    have v2 : wr.cell? ⟨tb, 2, none⟩ = some (.slice p.C p.cn p.cc) := Xr.out.cell rfl
    have v3 : wr.cell? ⟨tb, 3, none⟩ = some (.slice p.D p.dn p.dc) := Xr.out.cell rfl
    have v4 : wr.cell? ⟨tb, 4, none⟩ = some (.slice p.W p.wn p.wc) := Xr.out.cell rfl
    have v5 : wr.cell? ⟨tb, 5, none⟩ = some (.int .i64 p.lm.rest) := Xr.out.cell rfl
    have v6 : wr.cell? ⟨tb, 6, none⟩ = some (.int .i64 p.lm.week) := Xr.out.cell rfl
    have v7 : wr.cell? ⟨tb, 7, none⟩ = some (.int .i64 p.lm.nf) := Xr.out.cell rfl
    have v8 : wr.cell? ⟨tb, 8, none⟩ = some (.int .i64 p.lm.nt) := Xr.out.cell rfl
    have v9 : wr.cell? ⟨tb, 9, none⟩ = some (.int .i64 p.lm.mn) := Xr.out.cell rfl
    by_cases hlt : k < p.wn
    ·have t1 : decide ((k : Int) < (p.wn : Int)) = true := decide_eq_true (by omega)
     go_wp2_with fail
     refine (sorted28 (wk := (k : Int)) (HP.out.grew (HG4.out.trans HR.out)) (HI4.out.grew HR.out) HLD.out (by omega)).mono ?_
     rintro r w5 ⟨MA, m, mc, L, rfl, hml, hsr, g5⟩
     obtain ⟨x, hx⟩ : ∃ x, p.ws[k]? = some x := ⟨_, List.getElem?_eq_getElem (by rw [HWL.out]; exact hlt)⟩
     have HX := Lib.hid hx
     have HSR := Lib.hid hsr
     have hso := srt_ok HOK.out HLN.out HDL.out hx (HVP.out k hlt) hsr
     have HDO := Lib.hid hso.1
     have HRE := Lib.hid hso.2
     have hLm : L.length = m := hml.1
     have hm6 : m ≤ 6 := by have := hsr.len; have := HLL.out; omega
     have HDS : Hid (Dus w5 MA m mc L) := ⟨hml, fun x hx => by
      have : 0 ≤ x.a ∧ x.a < x.b ∧ x.b ≤ 52596000 ∧ x.b - x.a ≤ 1440 ∧ 0 ≤ x.s ∧ x.s ≤ 65535 := of_decide_eq_true (hso.1.ok x hx)
      unfold in64
      omega⟩
     have HLM := Lib.hid hLm
     have HR5 := Lib.hid (HR.out.trans g5)
     clear v0 v1 v2 v3 v4 v5 v6 v7 v8 v9 hml hsr g5 hso HR Xr hx hLm
     go_wp2_with fail
     refine (exact29 HDS.out (by omega)).mono ?_
     rintro r w6 ⟨QA, qc, rfl, hq, g6⟩
     have HQ := Lib.hid hq
     have HR6 := Lib.hid (HR5.out.trans g6)
     have HD6 := Lib.hid (HDS.out.grew g6)
     clear hq g6 HR5 HDS
     go_wp2_with fail
     refine (pair30 HD6.out HQ.out HDO.out (by omega)).mono ?_
     rintro r w7 ⟨TA, tc, rfl, ht, g7⟩
     have HT := Lib.hid ht
     have HR7 := Lib.hid (HR6.out.trans g7)
     have HD7 := Lib.hid (HD6.out.grew g7)
     have HQ7 := Lib.hid (HQ.out.grew g7)
     clear ht g7 HR6 HD6 HQ
     go_wp2_with fail
     refine (worked31 HD7.out HQ7.out HT.out HDO.out (by omega)).mono ?_
     rintro r w8 ⟨WA, rfl, hwk, g8⟩
     have HK8 := Lib.hid hwk
     have HR8 := Lib.hid (HR7.out.trans g8)
     have HD8 := Lib.hid (HD7.out.grew g8)
     clear hwk g8 HR7 HD7 HQ7 HT
     go_wp2_with fail
     have HB8 := Lib.hid (X4.out.grew HR8.out)
     go_loopw [3, 9, 18] (fun up co i y => ∃ (j : Nat) (M : Int), j ≤ m ∧ up = .bool true ∧ i = .int .i64 j ∧ co = .int .i64 M ∧ Hid (N + x.wg * sumD (L.take j) = M) ∧ 0 ≤ M ∧ M ≤ N + (j : Int) * 1440000000 ∧ Hid (Grew w8 y)) (fun _ _ i _ => m - (intOf i).toNat)
     case atStart => exact ⟨0, N, Nat.zero_le _, rfl, rfl, rfl, by unfold Hid; simp [sumD], hN0, by omega, Grew.refl _⟩
     case round =>
      obtain ⟨j, M, hj, rfl, rfl, rfl, HM, hM0, hM1, HRr⟩ := hrel
      by_cases hjm : j < m
      ·obtain ⟨bd, od, y, hMA, hy, ⟨d0, d1, d2⟩, _⟩ := (HD8.out.grew HRr.out).at_ hjm
       have hyd : 0 ≤ y.a ∧ y.a < y.b ∧ y.b ≤ 52596000 ∧ y.b - y.a ≤ 1440 ∧ 0 ≤ y.s ∧ y.s ≤ 65535 := of_decide_eq_true (HDO.out.ok y (List.mem_of_getElem? hy))
       have HOY := Lib.hid (HDO.out.ok y (List.mem_of_getElem? hy))
       have hst : N + x.wg * sumD (L.take (j + 1)) = M + x.wg * (y.b - y.a) := by rw [sumD_take hy, Int.mul_add, ← HM.out]; omega
       obtain ⟨bg, og, hWA, hmc⟩ := (HK8.out.grew HRr.out).at_ (by omega)
       have c0 := hmc j (y.b - y.a) (by rw [List.getElem?_map, hy]; rfl)
       obtain ⟨bw, ow, xx, hW, hxx, ⟨_, _, _, x3, _⟩, _⟩ := (HP.out.grew (HG4.out.trans (HR8.out.trans HRr.out))).ws.at_ hlt
       have hxe : x = xx := by have := HX.out; rw [hxx] at this; injection this with this; exact this.symm
       rw [← hxe] at x3
       have hwg := HWG.out k x HX.out
       have v4 : wr.cell? ⟨tb, 4, none⟩ = some (.slice (some ⟨bw, ow, none⟩) p.wn p.wc) := by rw [← hW]; exact (HB8.out.grew HRr.out).cell rfl
       have v5 : wr.cell? ⟨tb, 5, none⟩ = some (.int .i64 p.lm.rest) := (HB8.out.grew HRr.out).cell rfl
       obtain ⟨xnm, xsk, xmi, xwg, xA, xn, xc, xaw⟩ := x
       obtain ⟨ya, yb, ys⟩ := y
       simp only at d0 d1 d2 c0 x3 hyd hwg hst
       have hmb := mul_bd hwg (show 0 ≤ yb - ya ∧ yb - ya ≤ 1440 by omega)
       have m1 : IntKind.i64.wrap (xwg * (yb - ya)) = xwg * (yb - ya) := IntWalk.i64_in _ (by omega)
       have m2 : IntKind.i64.wrap (M + xwg * (yb - ya)) = M + xwg * (yb - ya) := IntWalk.i64_in _ (by omega)
       have m3 : IntKind.i64.wrap (yb - ya) = yb - ya := IntWalk.i64_in _ (by omega)
       have HST := Lib.hid hst
       have HMB := Lib.hid hmb
       have t1 : decide ((j : Int) < (m : Int)) = true := decide_eq_true (by omega)
       have e1 : (0 : Int) ≤ (j : Int) := by omega
       have e2 : (j : Int) < (m : Int) := by omega
       have e3 : (0 : Int) ≤ (k : Int) := by omega
       have e4 : (k : Int) < (p.wn : Int) := by omega
       have HYY := Lib.hid hy
       subst hMA hWA
       clear hst hmb hxx hxe hmc hy hW
       have hC : ∀ w', Grew wr w' → (w'.cell? ⟨tb, 4, none⟩ = some (.slice (some ⟨bw, ow, none⟩) p.wn p.wc) ∧ w'.cell? ⟨tb, 5, none⟩ = some (.int .i64 p.lm.rest)) ∧ w'.cell? ⟨bw, ow + k * 5 + 3, none⟩ = some (.int .i64 xwg) ∧ w'.cell? ⟨bg, og + j, none⟩ = some (.int .i64 (yb - ya)) ∧ w'.cell? ⟨bd, od + j * 3, none⟩ = some (.int .i64 ya) ∧ w'.cell? ⟨bd, od + j * 3 + 1, none⟩ = some (.int .i64 yb) ∧ w'.cell? ⟨bd, od + j * 3 + 2, none⟩ = some (.int .i64 ys) := fun w' g' => ⟨⟨g'.cell v4, g'.cell v5⟩, g'.cell x3, g'.cell c0, g'.cell d0, g'.cell d1, g'.cell d2⟩
       have HC := Lib.hid hC
       clear hC v4 v5 x3 c0 d0 d1 d2
       go_upto_region 21 with (fail)
       refine wp_region_seq (by kernel_rfl) Grew.refl (fun _ _ _ => Grew.trans) (fun _ _ _ _ _ h => h) (by kernel_rfl) ?_
       repeat (first
        | (refine TakeAll.pure (v := ?_) (by rfl) ?_ ?_; rotate_left; (intro w' g'; obtain ⟨⟨q_0, q_1⟩, q_2, q_3, q_4, q_5, q_6⟩ := HC.out w' ((Grew.refl wr).drew.trans g'); go_simp; first | done | with_reducible rfl); (simp only [Act.put, uzT, uz0, uz1]))
        | (refine TakeAll.skip (by rfl) ?_; (simp only [Act.put, uzT, uz0, uz1])))
       refine TakeAll.nil ?_
       intro wb g1
       have gb := (Grew.refl wr).drew.trans g1
       clear g1
       have HGb := Lib.hid gb
       have HR9 := Lib.hid (HRr.out.trans gb)
       clear gb m2
       go_upto_region 22 with (fail)
       have HCb : Hid (∀ w', Grew wb.drew w' → Grew wr w') := fun w' g' => HGb.out.trans ((Grew.refl wb).drew.trans g')
       by_cases hj0 : j = 0
       ·subst hj0
        have HC0 : Hid (∀ w', Grew wr w' → w'.cell? ⟨tb, 5, none⟩ = some (.int .i64 p.lm.rest) ∧ w'.cell? ⟨bg, og, none⟩ = some (.int .i64 (yb - ya)) ∧ w'.cell? ⟨bd, od, none⟩ = some (.int .i64 ya) ∧ w'.cell? ⟨bd, od + 1, none⟩ = some (.int .i64 yb)) := fun w' g' => by
         have h := HC.out w' g'
         simp only [Nat.zero_mul, Nat.add_zero] at h
         exact ⟨h.1.2, h.2.2.1, h.2.2.2.1, h.2.2.2.2.1⟩
        refine wp_region_seq (by kernel_rfl) Grew.refl (fun _ _ _ => Grew.trans) (fun _ _ _ _ _ h => h) (by kernel_rfl) ?_
        repeat (first
         | (refine TakeAll.pure (v := ?_) (by rfl) ?_ ?_; rotate_left; (intro w' g'; obtain ⟨q_1, q_3, q_4, q_5⟩ := HC0.out w' (HCb.out w' g'); go_simp; first | done | with_reducible rfl); (simp only [Act.put, uzT, uz0, uz1]))
         | (refine TakeAll.skip (by rfl) ?_; (simp only [Act.put, uzT, uz0, uz1])))
        refine TakeAll.nil ?_
        intro wc g2
        have HRc := Lib.hid (HR9.out.trans ((Grew.refl wb).drew.trans g2))
        clear g2 HC HC0 HCb HGb HR9
        go_wp2_with fail
        go_roundw
        case rel => exact ⟨0 + 1, M + xwg * (yb - ya), by omega, rfl, by go_num, rfl, HST.out, by have := HMB.out; omega, by have := HMB.out; omega, HRc.out⟩
        case measure => simp [intOf]; omega
       ·obtain ⟨i, hi⟩ : ∃ i, i + 1 = j := ⟨j - 1, by omega⟩
        have HIJ := Lib.hid hi
        obtain ⟨bd2, od2, z, hMA2, hz, ⟨z0, z1, z2⟩, _⟩ := (HD8.out.grew HRr.out).at_ (show i < m by omega)
        injection hMA2 with hMA2
        injection hMA2 with hb1 ho1 _
        have hzo := HDO.out.ok z (List.mem_of_getElem? hz)
        have hrest := HRE.out i z _ hz (by rw [hi]; exact HYY.out)
        obtain ⟨za, zb, zs⟩ := z
        simp only at z0 z1 z2
        rw [← hb1, ← ho1] at z0 z1 z2
        obtain ⟨rr, hrr⟩ : ∃ t, restF ⟨za, zb, zs⟩ ⟨ya, yb, ys⟩ = t := ⟨_, rfl⟩
        rw [hrr] at hrest
        have HRR := Lib.hid hrr
        have HZO := Lib.hid hzo
        have HZC : Hid (∀ w', Grew wr w' → w'.cell? ⟨bd, od + i * 3, none⟩ = some (.int .i64 za) ∧ w'.cell? ⟨bd, od + i * 3 + 1, none⟩ = some (.int .i64 zb) ∧ w'.cell? ⟨bd, od + i * 3 + 2, none⟩ = some (.int .i64 zs)) := fun w' g' => ⟨g'.cell z0, g'.cell z1, g'.cell z2⟩
        have s1 : ((j : Int) == 0) = false := beq_eq_false_iff_ne.2 (by omega)
        have s1' : (j == 0) = false := beq_eq_false_iff_ne.2 hj0
        have s2 : IntKind.i64.wrap ((j : Int) - 1) = (i : Int) := by rw [show (j : Int) - 1 = (i : Int) by omega]; exact IntWalk.i64_in _ (by omega)
        have s3 : (0 : Int) ≤ (i : Int) := by omega
        have s4 : (i : Int) < (m : Int) := by omega
        have s5 : decide (p.lm.rest ≤ rr) = true := decide_eq_true hrest
        clear hi hz hb1 ho1 hzo hrr z0 z1 z2
        refine wp_region_seq (by kernel_rfl) Grew.refl (fun _ _ _ => Grew.trans) (fun _ _ _ _ _ h => h) (by kernel_rfl) ?_
        repeat (first
         | (refine TakeAll.pure (v := ?_) (by rfl) ?_ ?_; rotate_left; (intro w' g'; obtain ⟨⟨q_0, q_1⟩, q_2, q_3, q_4, q_5, q_6⟩ := HC.out w' (HCb.out w' g'); obtain ⟨z_0, z_1, z_2⟩ := HZC.out w' (HCb.out w' g'); go_simp; first | done | with_reducible rfl); (simp only [Act.put, uzT, uz0, uz1]))
         | (refine TakeAll.skip (by rfl) ?_; (simp only [Act.put, uzT, uz0, uz1]))
         | (refine TakeAll.call (by rfl) 32 _ (fun _ => by go_simp; first | done | rfl) (fun w' g' => rest32v HZO.out HOY.out HRR.out w') ?_; (simp only [Act.put, uzT, uz0, uz1])))
        refine TakeAll.nil ?_
        intro wc g2
        have HRc := Lib.hid (HR9.out.trans ((Grew.refl wb).drew.trans g2))
        clear g2 HC HCb HGb HR9 HZC s2
        go_wp2_with fail
        go_roundw
        case rel => exact ⟨j + 1, M + xwg * (yb - ya), by omega, rfl, by go_num, rfl, HST.out, by have := HMB.out; omega, by have := HMB.out; omega, HRc.out⟩
        case measure => simp [intOf]; omega
      ·obtain rfl : m = j := by omega
       have t1 : decide ((m : Int) < (m : Int)) = false := decide_eq_false (by omega)
       have HSN : Hid (sumN (payF p l) (k + 1) = M) := by
        unfold Hid sumN
        rw [HS.out, pay_of HX.out HSR.out, ← HM.out, List.take_of_length_le (by rw [HLM.out]; exact Nat.le_refl _)]
       have HRn := Lib.hid (HR8.out.trans HRr.out)
       clear HM
       go_wp2_with fail
       go_roundw
       case rel => exact ⟨k + 1, M, by omega, rfl, by go_num, rfl, HSN.out, hM0, by omega, HRn.out⟩
       case measure => simp [intOf]; omega
    ·obtain rfl : p.wn = k := by omega
     have hNc : N = c := HS.out.symm.trans HCP.out
     have t1 : decide ((p.wn : Int) < (p.wn : Int)) = false := decide_eq_false (by omega)
     have HGr := Lib.hid (HG4.out.trans HR.out)
     subst hNc
     go_wp2_with fail
     refine (cost19 (HP.out.grew HGr.out) HOK.out (HI4.out.grew HR.out) HSO.out.1).mono ?_
     rintro r w5 ⟨rfl, g5⟩
     rw [HSO.out.2.2]
     clear v0 v1 v2 v3 v4 v5 v6 v7 v8 v9
     go_wp2
     go_ret
     exact ⟨rfl, HGr.out.trans g5⟩
  ·have e1 : (e == 0) = false := beq_eq_false_iff_ne.2 he
   go_wp2
   go_ret
   exact ⟨rfl, HG4.out⟩
end Go.Proofs.YtnnbibmmofnkdaaGreat
