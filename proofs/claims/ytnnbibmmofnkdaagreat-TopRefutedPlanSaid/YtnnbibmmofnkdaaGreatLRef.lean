/-
  TopRefutedPlan: the law, walked.
-/
import Derived.Test.YtnnbibmmofnkdaaGreatTopC
import Derived.Test.YtnnbibmmofnkdaaGreatNeu
namespace Go.Proofs.YtnnbibmmofnkdaaGreat
open Go.RowKit Go.Proofs WageMem WageReg WageRec WageSpan WageTop

theorem info56 : (Tryz.prog.info? 56).map (fun i => (i.zero, i.size, i.bytes)) = some (some (.agg #[.string ⟨#[]⟩, .int .i64 0, .bool false, .int .i64 0, .slice none 0 0]), 5, 64) := by kernel_rfl
theorem make6 {w : World} {base : Nat} (hb : base ≤ w.heap.size) : (w.alloc (.cells #[.string ⟨#[]⟩, .int .i64 0, .bool false, .int .i64 0, .slice none 0 0, .string ⟨#[]⟩, .int .i64 0, .bool false, .int .i64 0, .slice none 0 0, .string ⟨#[]⟩, .int .i64 0, .bool false, .int .i64 0, .slice none 0 0, .string ⟨#[]⟩, .int .i64 0, .bool false, .int .i64 0, .slice none 0 0, .string ⟨#[]⟩, .int .i64 0, .bool false, .int .i64 0, .slice none 0 0, .string ⟨#[]⟩, .int .i64 0, .bool false, .int .i64 0, .slice none 0 0] 56)).ownsRow base 56 5 (.slice (some ⟨w.heap.size, 0, none⟩) 0 6) 0 [] :=
  ⟨rfl, .inr ⟨w.heap.size, 6, _, rfl, hb, World.alloc_heap_new w _, Nat.zero_le _, by unfold maxLen; omega, rfl, rfl⟩⟩
set_option maxRecDepth 100000 in
set_option maxHeartbeats 16000000 in
theorem law4 {w : World} {p : Pl} {bound : Int} {LA : Option Addr} {ln lc : Nat} {log : List Stp} (hp : PlanAt w p) (hbd : in64 bound) (hl : LgRd w LA ln lc log) :
    Calls Tryz.prog 4 #[planV p, .int .i64 bound, .slice LA ln lc] w fun e w' => e = .returned (.bool true) ∧ Grew w w' := by
  have HP := Lib.hid hp
  have HL := Lib.hid hl
  have hb1 : -9223372036854775808 ≤ bound := hbd.1
  have hb2 : bound ≤ 9223372036854775807 := hbd.2
  clear hp hl hbd
  show Calls Tryz.prog 4 #[.agg #[.string p.nm, .int .i64 p.zb, .slice p.C p.cn p.cc, .slice p.D p.dn p.dc, .slice p.W p.wn p.wc, .int .i64 p.lm.rest, .int .i64 p.lm.week, .int .i64 p.lm.nf, .int .i64 p.lm.nt, .int .i64 p.lm.mn], .int .i64 bound, .slice LA ln lc] w _
  obtain ⟨w1, hw1⟩ : ∃ y, y = w.alloc (.cells #[.string p.nm, .int .i64 p.zb, .slice p.C p.cn p.cc, .slice p.D p.dn p.dc, .slice p.W p.wn p.wc, .int .i64 p.lm.rest, .int .i64 p.lm.week, .int .i64 p.lm.nf, .int .i64 p.lm.nt, .int .i64 p.lm.mn] 32) := ⟨_, rfl⟩
  obtain ⟨tb, htb⟩ : ∃ z, z = w.heap.size := ⟨_, rfl⟩
  have g1 : Grew w w1 := by rw [hw1]; exact (Grew.refl w).alloc _
  have X1 : Hid (Blk w1 tb 32 (planC p)) := by unfold Hid; rw [hw1, htb]; exact Blk.new w 32 (planC p)
  have HG1 := Lib.hid g1
  clear g1
  go_enter Tryz.func4, Tryz.ntmps4
  go_upto_region 1 with (fail)
  rw [← hw1, ← htb]
  clear hw1 htb
  go_wp2_with fail
  refine (plan8 w1).mono ?_
  rintro r w2 ⟨rfl, g2⟩
  have X2 := Lib.hid (X1.out.grew g2)
  have HG2 := Lib.hid (HG1.out.trans g2)
  clear g2 X1 HG1
  have v0 : w2.cell? ⟨tb, 0, none⟩ = some (.string p.nm) := X2.out.cell rfl
  have v1 : w2.cell? ⟨tb, 1, none⟩ = some (.int .i64 p.zb) := X2.out.cell rfl
  have v2 : w2.cell? ⟨tb, 2, none⟩ = some (.slice p.C p.cn p.cc) := X2.out.cell rfl
  have v3 : w2.cell? ⟨tb, 3, none⟩ = some (.slice p.D p.dn p.dc) := X2.out.cell rfl
  have v4 : w2.cell? ⟨tb, 4, none⟩ = some (.slice p.W p.wn p.wc) := X2.out.cell rfl
  have v5 : w2.cell? ⟨tb, 5, none⟩ = some (.int .i64 p.lm.rest) := X2.out.cell rfl
  have v6 : w2.cell? ⟨tb, 6, none⟩ = some (.int .i64 p.lm.week) := X2.out.cell rfl
  have v7 : w2.cell? ⟨tb, 7, none⟩ = some (.int .i64 p.lm.nf) := X2.out.cell rfl
  have v8 : w2.cell? ⟨tb, 8, none⟩ = some (.int .i64 p.lm.nt) := X2.out.cell rfl
  have v9 : w2.cell? ⟨tb, 9, none⟩ = some (.int .i64 p.lm.mn) := X2.out.cell rfl
  go_wp2_with fail
  refine (tiny9 (HP.out.grew HG2.out)).mono ?_
  rintro r w3 ⟨tn, rfl, htn, g3⟩
  have X3 := Lib.hid (X2.out.grew g3)
  have HG3 := Lib.hid (HG2.out.trans g3)
  have HTN := Lib.hid htn
  clear v0 v1 v2 v3 v4 v5 v6 v7 v8 v9 g3 X2 HG2 htn
  cases tn with
  | false =>
    go_wp2
    go_ret
    exact ⟨rfl, HG3.out⟩
  | true =>
    have HOK : Hid (planB p = true) := (HTN.out rfl).1
    have hd6 : p.dn ≤ 6 := (HTN.out rfl).2.1
    have hw4 : p.wn ≤ 4 := (HTN.out rfl).2.2.1
    clear HTN
    have v0 : w3.cell? ⟨tb, 0, none⟩ = some (.string p.nm) := X3.out.cell rfl
    have v1 : w3.cell? ⟨tb, 1, none⟩ = some (.int .i64 p.zb) := X3.out.cell rfl
    have v2 : w3.cell? ⟨tb, 2, none⟩ = some (.slice p.C p.cn p.cc) := X3.out.cell rfl
    have v3 : w3.cell? ⟨tb, 3, none⟩ = some (.slice p.D p.dn p.dc) := X3.out.cell rfl
    have v4 : w3.cell? ⟨tb, 4, none⟩ = some (.slice p.W p.wn p.wc) := X3.out.cell rfl
    have v5 : w3.cell? ⟨tb, 5, none⟩ = some (.int .i64 p.lm.rest) := X3.out.cell rfl
    have v6 : w3.cell? ⟨tb, 6, none⟩ = some (.int .i64 p.lm.week) := X3.out.cell rfl
    have v7 : w3.cell? ⟨tb, 7, none⟩ = some (.int .i64 p.lm.nf) := X3.out.cell rfl
    have v8 : w3.cell? ⟨tb, 8, none⟩ = some (.int .i64 p.lm.nt) := X3.out.cell rfl
    have v9 : w3.cell? ⟨tb, 9, none⟩ = some (.int .i64 p.lm.mn) := X3.out.cell rfl
    by_cases hd0 : p.dn = 0
    · have r1 : (p.dn == 0) = true := by simpa using hd0
      have r2 : ((p.dn : Int) == 0) = true := by simp; omega
      go_wp2
      go_ret
      exact ⟨rfl, HG3.out⟩
    · have r1 : (p.dn == 0) = false := by simpa using hd0
      have r2 : ((p.dn : Int) == 0) = false := by simp; omega
      go_wp2_with fail
      refine (short16 (HL.out.grew HG3.out)).mono ?_
      rintro r w4 ⟨ts, rfl, hts, g4⟩
      have X4 := Lib.hid (X3.out.grew g4)
      have HG4 := Lib.hid (HG3.out.trans g4)
      have HTS := Lib.hid hts
      clear v0 v1 v2 v3 v4 v5 v6 v7 v8 v9 g4 X3 HG3 hts
      cases ts with
      | false =>
        go_wp2
        go_ret
        exact ⟨rfl, HG4.out⟩
      | true =>
        have HSZ : Hid (∀ s ∈ log, s.cl.length ≤ 1000) := fun s hs => Nat.le_trans ((HTS.out rfl).2 s hs) (by decide)
        clear HTS
        have v0 : w4.cell? ⟨tb, 0, none⟩ = some (.string p.nm) := X4.out.cell rfl
        have v1 : w4.cell? ⟨tb, 1, none⟩ = some (.int .i64 p.zb) := X4.out.cell rfl
        have v2 : w4.cell? ⟨tb, 2, none⟩ = some (.slice p.C p.cn p.cc) := X4.out.cell rfl
        have v3 : w4.cell? ⟨tb, 3, none⟩ = some (.slice p.D p.dn p.dc) := X4.out.cell rfl
        have v4 : w4.cell? ⟨tb, 4, none⟩ = some (.slice p.W p.wn p.wc) := X4.out.cell rfl
        have v5 : w4.cell? ⟨tb, 5, none⟩ = some (.int .i64 p.lm.rest) := X4.out.cell rfl
        have v6 : w4.cell? ⟨tb, 6, none⟩ = some (.int .i64 p.lm.week) := X4.out.cell rfl
        have v7 : w4.cell? ⟨tb, 7, none⟩ = some (.int .i64 p.lm.nf) := X4.out.cell rfl
        have v8 : w4.cell? ⟨tb, 8, none⟩ = some (.int .i64 p.lm.nt) := X4.out.cell rfl
        have v9 : w4.cell? ⟨tb, 9, none⟩ = some (.int .i64 p.lm.mn) := X4.out.cell rfl
        go_wp2_with fail
        obtain ⟨tc, htc⟩ : ∃ t, chkB p bound log = t := ⟨_, rfl⟩
        refine (check17 (HP.out.grew HG4.out) (HL.out.grew HG4.out) HSZ.out htc).mono ?_
        rintro r w5 ⟨rfl, g5⟩
        have X5 := Lib.hid (X4.out.grew g5)
        have HG5 := Lib.hid (HG4.out.trans g5)
        have HTC := Lib.hid htc
        clear v0 v1 v2 v3 v4 v5 v6 v7 v8 v9 g5 X4 HG4 htc
        cases tc with
        | false =>
          go_wp2
          go_ret
          exact ⟨rfl, HG5.out⟩
        | true =>
          clear r1 r2
          have v0 : w5.cell? ⟨tb, 0, none⟩ = some (.string p.nm) := X5.out.cell rfl
          have v1 : w5.cell? ⟨tb, 1, none⟩ = some (.int .i64 p.zb) := X5.out.cell rfl
          have v2 : w5.cell? ⟨tb, 2, none⟩ = some (.slice p.C p.cn p.cc) := X5.out.cell rfl
          have v3 : w5.cell? ⟨tb, 3, none⟩ = some (.slice p.D p.dn p.dc) := X5.out.cell rfl
          have v4 : w5.cell? ⟨tb, 4, none⟩ = some (.slice p.W p.wn p.wc) := X5.out.cell rfl
          have v5 : w5.cell? ⟨tb, 5, none⟩ = some (.int .i64 p.lm.rest) := X5.out.cell rfl
          have v6 : w5.cell? ⟨tb, 6, none⟩ = some (.int .i64 p.lm.week) := X5.out.cell rfl
          have v7 : w5.cell? ⟨tb, 7, none⟩ = some (.int .i64 p.lm.nf) := X5.out.cell rfl
          have v8 : w5.cell? ⟨tb, 8, none⟩ = some (.int .i64 p.lm.nt) := X5.out.cell rfl
          have v9 : w5.cell? ⟨tb, 9, none⟩ = some (.int .i64 p.lm.mn) := X5.out.cell rfl
          go_wp2_with fail
          refine (solve13 p 4000 w5 (HP.out.grew HG5.out)).mono ?_
          rintro r w6 ⟨BA, bc, GA, gc, rfl, hown, hlog, g6⟩
          clear hown hlog
          have X6 := Lib.hid (X5.out.grew g6)
          have HG6 := Lib.hid (HG5.out.trans g6)
          clear v0 v1 v2 v3 v4 v5 v6 v7 v8 v9 g6 X5 HG5
          have HLT : Hid ((solF p 4000).2.2.2 = 0 → ¬ (solF p 4000).2.1 < bound) := fun he hlt => by
            have hc := HTC.out
            unfold chkB at hc
            rw [Bool.and_eq_true, Bool.and_eq_true] at hc
            have hs : solF p 4000 = solve (envP p) 4000 := by unfold solF; rw [if_pos ⟨HOK.out, by decide, by decide⟩]
            have := solve_bound (fuel := 4000) (l := (solF p 4000).1) (c := (solF p 4000).2.1) (log := (solF p 4000).2.2.1) (env_ok HP.out HOK.out) (viol_nil p) (show 0 < p.dn by omega) (by rw [← hs, ← he]) hc.2.2
            omega
          obtain ⟨⟨l1, c1, lg1, e1⟩, hs1⟩ : ∃ s, solF p 4000 = s := ⟨_, rfl⟩
          rw [hs1] at HLT ⊢
          simp only at HLT ⊢
          clear hs1
          have r3 : ((e1 == 0) && decide (c1 < bound)) = false := by
            cases hh : ((e1 == 0) && decide (c1 < bound)) with
            | false => rfl
            | true =>
              rw [Bool.and_eq_true, beq_iff_eq, decide_eq_true_eq] at hh
              exact absurd hh.2 (HLT.out hh.1)
          clear HLT
          obtain ⟨q1, hq1⟩ : ∃ q, (e1 == 0) = q := ⟨_, rfl⟩
          obtain ⟨q2, hq2⟩ : ∃ q, decide (c1 < bound) = q := ⟨_, rfl⟩
          rw [hq1, hq2] at r3
          have K1 : q1 = false ∨ (q1 = true ∧ q2 = false) := by cases q1 <;> cases q2 <;> simp at r3 ⊢
          clear r3
          have v0 : w6.cell? ⟨tb, 0, none⟩ = some (.string p.nm) := X6.out.cell rfl
          have v0 : w6.cell? ⟨tb, 0, none⟩ = some (.string p.nm) := X6.out.cell rfl
          have v1 : w6.cell? ⟨tb, 1, none⟩ = some (.int .i64 p.zb) := X6.out.cell rfl
          have v2 : w6.cell? ⟨tb, 2, none⟩ = some (.slice p.C p.cn p.cc) := X6.out.cell rfl
          have v3 : w6.cell? ⟨tb, 3, none⟩ = some (.slice p.D p.dn p.dc) := X6.out.cell rfl
          have v4 : w6.cell? ⟨tb, 4, none⟩ = some (.slice p.W p.wn p.wc) := X6.out.cell rfl
          have v5 : w6.cell? ⟨tb, 5, none⟩ = some (.int .i64 p.lm.rest) := X6.out.cell rfl
          have v6 : w6.cell? ⟨tb, 6, none⟩ = some (.int .i64 p.lm.week) := X6.out.cell rfl
          have v7 : w6.cell? ⟨tb, 7, none⟩ = some (.int .i64 p.lm.nf) := X6.out.cell rfl
          have v8 : w6.cell? ⟨tb, 8, none⟩ = some (.int .i64 p.lm.nt) := X6.out.cell rfl
          have v9 : w6.cell? ⟨tb, 9, none⟩ = some (.int .i64 p.lm.mn) := X6.out.cell rfl
          obtain ⟨wq, hwq⟩ : ∃ y, y = w6.alloc (.cells #[.string p.nm, .int .i64 p.zb, .slice p.C p.cn p.cc, .slice p.D p.dn p.dc, .slice p.W p.wn p.wc, .int .i64 p.lm.rest, .int .i64 p.lm.week, .int .i64 p.lm.nf, .int .i64 p.lm.nt, .int .i64 p.lm.mn] 32) := ⟨_, rfl⟩
          obtain ⟨qb, hqb⟩ : ∃ z, z = w6.heap.size := ⟨_, rfl⟩
          have gq : Grew w6 wq := by rw [hwq]; exact (Grew.refl w6).alloc _
          have XQ : Hid (Blk wq qb 32 (planC p)) := by unfold Hid; rw [hwq, hqb]; exact Blk.new w6 32 (planC p)
          have HQB : Hid (w6.heap.size ≤ qb) := by unfold Hid; omega
          have HGQ := Lib.hid gq
          have HC6 : Hid (∀ w', Grew w6 w' → w'.cell? ⟨tb, 4, none⟩ = some (.slice p.W p.wn p.wc)) := fun w' g' => g'.cell v4
          have HWS : Hid (Sl w6 5 p.W p.wn p.wc (p.ws.flatMap encW)) := (HP.out.grew HG6.out).ws.1.2
          have HONE : Hid (∀ u ∈ p.ws.flatMap encW, u.oneCell' = true) := fun u hu => by
            obtain ⟨x, _, h⟩ := List.mem_flatMap.1 hu
            exact encW_ok.one x u h
          have HONE2 : Hid (∀ u ∈ [newWo].flatMap encW, u.oneCell' = true) := fun u hu => by
            obtain ⟨x, _, h⟩ := List.mem_flatMap.1 hu
            exact encW_ok.one x u h
          obtain ⟨i0, hi, hz0, hz1, hz2⟩ := info_parts info56
          clear gq
          rcases K1 with rfl | ⟨rfl, rfl⟩
          all_goals (
            go_upto_region 9 with (fail)
            rw [← hwq, ← hqb]
            clear hwq hqb v0 v1 v2 v3 v4 v5 v6 v7 v8 v9
            refine cut_region (X := Value × Value × Value × Option Addr × Nat) (by kernel_rfl) (fun _ w' => Grew w6 w') (fun a x => (((((((a.put (some 59) (.pointer (some ⟨tb, 4, none⟩))).put (some 60) (.slice p.W p.wn p.wc)).put (some 62) (.agg #[.string ⟨#[110, 101, 119]⟩, .int .i64 65535, .bool false, .int .i64 0, .slice none 0 0])).put (some 65) (.pointer (some ⟨qb, 4, none⟩))).put (some 58) x.1).put (some 61) x.2.1).put (some 63) x.2.2.1).put (some 64) (.slice x.2.2.2.1 (p.wn + 1) x.2.2.2.2)) (fun x w' => Hid (w'.ownsRow w6.heap.size 56 5 (.slice x.2.2.2.1 (p.wn + 1) x.2.2.2.2) (p.wn + 1) ((p.ws ++ [newWo]).flatMap encW)) ∧ Hid (Blk w' qb 32 ((planC p).set 4 (.slice x.2.2.2.1 (p.wn + 1) x.2.2.2.2))) ∧ Hid (Grew w6 w')) ?_ ?_
            rotate_left
            · intro wd gwd J0
              have HJ := Lib.hid J0
              have S0 : Grew w6 wd := HGQ.out.trans gwd
              have XD := Lib.hid (XQ.out.grew gwd)
              clear J0 gwd
              refine wpAnyH_takes (fun _ _ _ _ _ h => h) S0 [1, 2, 4] (fuel' := 6) (by kernel_rfl) (by kernel_rfl) (by simp only [pickOps, List.getElem?_toArray, List.getElem?_cons_zero, List.getElem?_cons_succ]; rfl) ?_
              repeat (first
                | (refine TakeP.pure (v := ?_) (by rfl) ?_ ?_; rotate_left; (intro w' g'; have y0 := HC6.out w' g'; go_simp; first | done | with_reducible rfl); (simp only [Act.put, List.setIfInBounds_toArray, List.set_cons_zero, List.set_cons_succ])))
              refine TakeP.nil ?_
              refine wpAnyH_two (i := 0) (j := 5) (by kernel_rfl) (fuel' := 5) (by kernel_rfl) (by simp only [pickOps, List.getElem?_toArray, List.getElem?_cons_zero]; rfl) rfl (by simp only [pickOps, List.getElem?_toArray, List.getElem?_cons_zero, List.getElem?_cons_succ]; rfl) rfl ?_ ?_
              · intro K hK
                refine wp_value (v := .slice (some ⟨wd.heap.size, 0, none⟩) 0 6) (w' := wd.alloc (.cells #[.string ⟨#[]⟩, .int .i64 0, .bool false, .int .i64 0, .slice none 0 0, .string ⟨#[]⟩, .int .i64 0, .bool false, .int .i64 0, .slice none 0 0, .string ⟨#[]⟩, .int .i64 0, .bool false, .int .i64 0, .slice none 0 0, .string ⟨#[]⟩, .int .i64 0, .bool false, .int .i64 0, .slice none 0 0, .string ⟨#[]⟩, .int .i64 0, .bool false, .int .i64 0, .slice none 0 0, .string ⟨#[]⟩, .int .i64 0, .bool false, .int .i64 0, .slice none 0 0] 56)) (by kernel_rfl) ?_
                have S1 := S0.alloc (.cells #[.string ⟨#[]⟩, .int .i64 0, .bool false, .int .i64 0, .slice none 0 0, .string ⟨#[]⟩, .int .i64 0, .bool false, .int .i64 0, .slice none 0 0, .string ⟨#[]⟩, .int .i64 0, .bool false, .int .i64 0, .slice none 0 0, .string ⟨#[]⟩, .int .i64 0, .bool false, .int .i64 0, .slice none 0 0, .string ⟨#[]⟩, .int .i64 0, .bool false, .int .i64 0, .slice none 0 0, .string ⟨#[]⟩, .int .i64 0, .bool false, .int .i64 0, .slice none 0 0] 56)
                refine hK _ _ S1 ?_
                clear hK K
                try simp only [Act.put, List.setIfInBounds_toArray, List.set_cons_zero, List.set_cons_succ]
                obtain ⟨v1, hv1⟩ : ∃ y, y = wd.alloc (.cells #[.string ⟨#[]⟩, .int .i64 0, .bool false, .int .i64 0, .slice none 0 0, .string ⟨#[]⟩, .int .i64 0, .bool false, .int .i64 0, .slice none 0 0, .string ⟨#[]⟩, .int .i64 0, .bool false, .int .i64 0, .slice none 0 0, .string ⟨#[]⟩, .int .i64 0, .bool false, .int .i64 0, .slice none 0 0, .string ⟨#[]⟩, .int .i64 0, .bool false, .int .i64 0, .slice none 0 0, .string ⟨#[]⟩, .int .i64 0, .bool false, .int .i64 0, .slice none 0 0] 56) := ⟨_, rfl⟩
                obtain ⟨b1, hb1⟩ : ∃ z, z = wd.heap.size := ⟨_, rfl⟩
                have gz1 : Grew wd v1 := by rw [hv1]; exact (Grew.refl _).alloc _
                have OE1 : Hid (v1.ownsRow w6.heap.size 56 5 (.slice (some ⟨b1, 0, none⟩) 0 6) 0 []) := by unfold Hid; rw [hv1, hb1]; exact make6 S0.le
                have X1q := Lib.hid (XD.out.grew gz1)
                rw [← hv1] at S1 ⊢
                rw [← hb1]
                clear hv1 hb1
                refine wpAnyH_two (i := 3) (j := 5) (by kernel_rfl) (fuel' := 4) (by kernel_rfl) (by simp only [pickOps, List.getElem?_toArray, List.getElem?_cons_zero, List.getElem?_cons_succ]; rfl) rfl (by simp only [pickOps, List.getElem?_toArray, List.getElem?_cons_zero, List.getElem?_cons_succ]; rfl) rfl ?_ ?_
                · intro K hK
                  refine wp_append_sl _ (.tmp 58) (.tmp 60) 26 rfl w6.heap.size 56 i0 (.agg #[.string ⟨#[]⟩, .int .i64 0, .bool false, .int .i64 0, .slice none 0 0]) 5 64 Tryz.underlying26 hi hz0 hz1 hz2 rfl (by decide) (.slice (some ⟨b1, 0, none⟩) 0 6) 0 _ rfl OE1.out p.W p.wn p.wc _ rfl (HWS.out.grew S1) HONE.out (by unfold maxLen; omega) (by omega) S1.le ?_
                  intro x2 v2 own2 hg2 _
                  obtain ⟨A2, c2, rfl⟩ := own_form own2
                  rw [Nat.zero_add, List.nil_append] at own2
                  have S2 : Grew w6 v2 := S1.grown hg2 (fun j hj => (OE1.out.lt j hj).1)
                  rw [Nat.zero_add]
                  refine hK _ _ S2 ?_
                  clear hK K
                  try simp only [Act.put, List.setIfInBounds_toArray, List.set_cons_zero, List.set_cons_succ]
                  have OW2 := Lib.hid own2
                  have X2q := Lib.hid (X1q.out.kept hg2 (own_blk OE1.out X1q.out (by decide)))
                  clear own2 hg2
                  refine wpAnyH_step (i := 5) (by kernel_rfl) (fuel' := 3) (by kernel_rfl) (by simp only [pickOps, List.getElem?_toArray, List.getElem?_cons_zero, List.getElem?_cons_succ]; rfl) (by rfl) ?_
                  intro K hK
                  go_simp
                  have S3 := S2.alloc (.cells #[.string ⟨#[110, 101, 119]⟩, .int .i64 65535, .bool false, .int .i64 0, .slice none 0 0] 56)
                  refine hK _ _ S3 ?_
                  clear hK K
                  try simp only [Act.put, List.setIfInBounds_toArray, List.set_cons_zero, List.set_cons_succ]
                  obtain ⟨v3, hv3⟩ : ∃ y, y = v2.alloc (.cells #[.string ⟨#[110, 101, 119]⟩, .int .i64 65535, .bool false, .int .i64 0, .slice none 0 0] 56) := ⟨_, rfl⟩
                  obtain ⟨b3, hb3⟩ : ∃ z, z = v2.heap.size := ⟨_, rfl⟩
                  have gz3 : Grew v2 v3 := by rw [hv3]; exact (Grew.refl _).alloc _
                  have BI3 : Hid (Sl v3 5 (some ⟨b3, 0, none⟩) 1 1 ([newWo].flatMap encW)) := by unfold Hid; rw [hv3, hb3]; exact builtS (w := v2) (t := 56) 5 1 #[.string ⟨#[110, 101, 119]⟩, .int .i64 65535, .bool false, .int .i64 0, .slice none 0 0] ([newWo].flatMap encW) rfl rfl (by decide)
                  have LB3 : b3 < v3.heap.size := by rw [hv3, hb3]; simp
                  have X3q := Lib.hid (X2q.out.grew gz3)
                  have OW3 := Lib.hid (own_grew OW2.out gz3)
                  rw [← hv3] at S3 ⊢
                  rw [← hb3]
                  clear hv3 hb3
                  refine wpAnyH_step (i := 6) (by kernel_rfl) (fuel' := 2) (by kernel_rfl) (by simp only [pickOps, List.getElem?_toArray, List.getElem?_cons_zero, List.getElem?_cons_succ]; rfl) (by rfl) ?_
                  intro K hK
                  refine wp_append_sl _ (.tmp 61) (.tmp 63) 26 rfl w6.heap.size 56 i0 (.agg #[.string ⟨#[]⟩, .int .i64 0, .bool false, .int .i64 0, .slice none 0 0]) 5 64 Tryz.underlying26 hi hz0 hz1 hz2 rfl (by decide) (.slice A2 p.wn c2) p.wn _ rfl OW3.out (some ⟨b3, 0, none⟩) 1 1 _ rfl BI3.out HONE2.out (by unfold maxLen; omega) (by omega) S3.le ?_
                  intro x4 v4 own4 hg4 _
                  obtain ⟨A4, c4, rfl⟩ := own_form own4
                  rw [← List.flatMap_append] at own4
                  have S4 : Grew w6 v4 := S3.grown hg4 (fun j hj => (OW3.out.lt j hj).1)
                  refine hK _ _ S4 ?_
                  clear hK K
                  try simp only [Act.put, List.setIfInBounds_toArray, List.set_cons_zero, List.set_cons_succ]
                  have OW4 := Lib.hid own4
                  have X4q := Lib.hid (X3q.out.kept hg4 (own_blk OW3.out X3q.out (by decide)))
                  clear own4 hg4
                  refine wpAnyH_takes (fun _ _ _ _ _ h => h) S4 [7] (fuel' := 1) (by kernel_rfl) (by kernel_rfl) (by simp only [pickOps, List.getElem?_toArray, List.getElem?_cons_zero, List.getElem?_cons_succ]; rfl) ?_
                  (refine TakeP.pure (v := ?_) (by rfl) ?_ ?_; rotate_left; (intro w' g'; go_simp; first | done | with_reducible rfl); (simp only [Act.put, List.setIfInBounds_toArray, List.set_cons_zero, List.set_cons_succ]))
                  refine TakeP.nil ?_
                  refine wpAnyH_step (i := 8) (by kernel_rfl) (fuel' := 0) (by kernel_rfl) (by simp only [pickOps, List.getElem?_toArray, List.getElem?_cons_zero, List.getElem?_cons_succ]; rfl) (by rfl) ?_
                  intro K hK
                  have u5 : v4.cell? ⟨qb, 4, none⟩ = some (.slice p.W p.wn p.wc) := X4q.out.cell rfl
                  have f5 := X4q.out.frozen 4
                  go_simp
                  have k5 := grown_set v4 qb 4 (.slice A4 (p.wn + 1) c4)
                  have S5 : Grew w6 (v4.setCell ⟨qb, 4, none⟩ (.slice A4 (p.wn + 1) c4)) := S4.grown k5 (fun j hj => by injection hj with hj; have := HQB.out; omega)
                  refine hK _ _ S5 ?_
                  clear hK K
                  refine wpAnyH_done (by kernel_rfl) ?_ _
                  have J := HJ.out (.slice (some ⟨b1, 0, none⟩) 0 6, .slice A2 p.wn c2, .slice (some ⟨b3, 0, none⟩) 1 1, A4, c4) _ ⟨Lib.hid (own_set OW4.out X4q.out (by decide) 4 (.slice A4 (p.wn + 1) c4)), Lib.hid (X4q.out.set 4 (.slice A4 (p.wn + 1) c4)), Lib.hid S5⟩
                  simp only [Act.put, List.setIfInBounds_toArray, List.set_cons_zero, List.set_cons_succ] at J
                  exact J
                · intro K hK
                  go_simp
                  have S6 := S1.alloc (.cells #[.string ⟨#[110, 101, 119]⟩, .int .i64 65535, .bool false, .int .i64 0, .slice none 0 0] 56)
                  refine hK _ _ S6 ?_
                  clear hK K
                  try simp only [Act.put, List.setIfInBounds_toArray, List.set_cons_zero, List.set_cons_succ]
                  obtain ⟨v6, hv6⟩ : ∃ y, y = v1.alloc (.cells #[.string ⟨#[110, 101, 119]⟩, .int .i64 65535, .bool false, .int .i64 0, .slice none 0 0] 56) := ⟨_, rfl⟩
                  obtain ⟨b6, hb6⟩ : ∃ z, z = v1.heap.size := ⟨_, rfl⟩
                  have gz6 : Grew v1 v6 := by rw [hv6]; exact (Grew.refl _).alloc _
                  have BI6 : Hid (Sl v6 5 (some ⟨b6, 0, none⟩) 1 1 ([newWo].flatMap encW)) := by unfold Hid; rw [hv6, hb6]; exact builtS (w := v1) (t := 56) 5 1 #[.string ⟨#[110, 101, 119]⟩, .int .i64 65535, .bool false, .int .i64 0, .slice none 0 0] ([newWo].flatMap encW) rfl rfl (by decide)
                  have LB6 : b6 < v6.heap.size := by rw [hv6, hb6]; simp
                  have X6q := Lib.hid (X1q.out.grew gz6)
                  have OE6 := Lib.hid (own_grew OE1.out gz6)
                  have ne6 : Hid (b1 < b6) := by unfold Hid; rw [hb6]; exact ((OE1.out.lt _ rfl).2)
                  rw [← hv6] at S6 ⊢
                  rw [← hb6]
                  clear hv6 hb6
                  refine wpAnyH_step (i := 3) (by kernel_rfl) (fuel' := 3) (by kernel_rfl) (by simp only [pickOps, List.getElem?_toArray, List.getElem?_cons_zero, List.getElem?_cons_succ]; rfl) (by rfl) ?_
                  intro K hK
                  refine wp_append_sl _ (.tmp 58) (.tmp 60) 26 rfl w6.heap.size 56 i0 (.agg #[.string ⟨#[]⟩, .int .i64 0, .bool false, .int .i64 0, .slice none 0 0]) 5 64 Tryz.underlying26 hi hz0 hz1 hz2 rfl (by decide) (.slice (some ⟨b1, 0, none⟩) 0 6) 0 _ rfl OE6.out p.W p.wn p.wc _ rfl (HWS.out.grew S6) HONE.out (by unfold maxLen; omega) (by omega) S6.le ?_
                  intro x7 v7 own7 hg7 _
                  obtain ⟨A7, c7, rfl⟩ := own_form own7
                  rw [Nat.zero_add, List.nil_append] at own7
                  have S7 : Grew w6 v7 := S6.grown hg7 (fun j hj => (OE6.out.lt j hj).1)
                  rw [Nat.zero_add]
                  refine hK _ _ S7 ?_
                  clear hK K
                  try simp only [Act.put, List.setIfInBounds_toArray, List.set_cons_zero, List.set_cons_succ]
                  have OW7 := Lib.hid own7
                  have X7q := Lib.hid (X6q.out.kept hg7 (own_blk OE6.out X6q.out (by decide)))
                  have BI7 := Lib.hid (KeepB.sl BI6.out (KeepB.grown (G := fun k => k ≠ b1) hg7 (fun h => h rfl)) (fun b o h _ => by injection h with h; injection h with h; intro e; subst e; exact (fun e => by have := ne6.out; omega) h))
                  clear own7 hg7
                  refine wpAnyH_step (i := 6) (by kernel_rfl) (fuel' := 2) (by kernel_rfl) (by simp only [pickOps, List.getElem?_toArray, List.getElem?_cons_zero, List.getElem?_cons_succ]; rfl) (by rfl) ?_
                  intro K hK
                  refine wp_append_sl _ (.tmp 61) (.tmp 63) 26 rfl w6.heap.size 56 i0 (.agg #[.string ⟨#[]⟩, .int .i64 0, .bool false, .int .i64 0, .slice none 0 0]) 5 64 Tryz.underlying26 hi hz0 hz1 hz2 rfl (by decide) (.slice A7 p.wn c7) p.wn _ rfl OW7.out (some ⟨b6, 0, none⟩) 1 1 _ rfl BI7.out HONE2.out (by unfold maxLen; omega) (by omega) S7.le ?_
                  intro x8 v8 own8 hg8 _
                  obtain ⟨A8, c8, rfl⟩ := own_form own8
                  rw [← List.flatMap_append] at own8
                  have S8 : Grew w6 v8 := S7.grown hg8 (fun j hj => (OW7.out.lt j hj).1)
                  refine hK _ _ S8 ?_
                  clear hK K
                  try simp only [Act.put, List.setIfInBounds_toArray, List.set_cons_zero, List.set_cons_succ]
                  have OW8 := Lib.hid own8
                  have X8q := Lib.hid (X7q.out.kept hg8 (own_blk OW7.out X7q.out (by decide)))
                  clear own8 hg8
                  refine wpAnyH_takes (fun _ _ _ _ _ h => h) S8 [7] (fuel' := 1) (by kernel_rfl) (by kernel_rfl) (by simp only [pickOps, List.getElem?_toArray, List.getElem?_cons_zero, List.getElem?_cons_succ]; rfl) ?_
                  (refine TakeP.pure (v := ?_) (by rfl) ?_ ?_; rotate_left; (intro w' g'; go_simp; first | done | with_reducible rfl); (simp only [Act.put, List.setIfInBounds_toArray, List.set_cons_zero, List.set_cons_succ]))
                  refine TakeP.nil ?_
                  refine wpAnyH_step (i := 8) (by kernel_rfl) (fuel' := 0) (by kernel_rfl) (by simp only [pickOps, List.getElem?_toArray, List.getElem?_cons_zero, List.getElem?_cons_succ]; rfl) (by rfl) ?_
                  intro K hK
                  have u9 : v8.cell? ⟨qb, 4, none⟩ = some (.slice p.W p.wn p.wc) := X8q.out.cell rfl
                  have f9 := X8q.out.frozen 4
                  go_simp
                  have k9 := grown_set v8 qb 4 (.slice A8 (p.wn + 1) c8)
                  have S9 : Grew w6 (v8.setCell ⟨qb, 4, none⟩ (.slice A8 (p.wn + 1) c8)) := S8.grown k9 (fun j hj => by injection hj with hj; have := HQB.out; omega)
                  refine hK _ _ S9 ?_
                  clear hK K
                  refine wpAnyH_done (by kernel_rfl) ?_ _
                  have J := HJ.out (.slice (some ⟨b1, 0, none⟩) 0 6, .slice A7 p.wn c7, .slice (some ⟨b6, 0, none⟩) 1 1, A8, c8) _ ⟨Lib.hid (own_set OW8.out X8q.out (by decide) 4 (.slice A8 (p.wn + 1) c8)), Lib.hid (X8q.out.set 4 (.slice A8 (p.wn + 1) c8)), Lib.hid S9⟩
                  simp only [Act.put, List.setIfInBounds_toArray, List.set_cons_zero, List.set_cons_succ] at J
                  exact J
              · intro K hK
                go_simp
                have S10 := S0.alloc (.cells #[.string ⟨#[110, 101, 119]⟩, .int .i64 65535, .bool false, .int .i64 0, .slice none 0 0] 56)
                refine hK _ _ S10 ?_
                clear hK K
                try simp only [Act.put, List.setIfInBounds_toArray, List.set_cons_zero, List.set_cons_succ]
                obtain ⟨v10, hv10⟩ : ∃ y, y = wd.alloc (.cells #[.string ⟨#[110, 101, 119]⟩, .int .i64 65535, .bool false, .int .i64 0, .slice none 0 0] 56) := ⟨_, rfl⟩
                obtain ⟨b10, hb10⟩ : ∃ z, z = wd.heap.size := ⟨_, rfl⟩
                have gz10 : Grew wd v10 := by rw [hv10]; exact (Grew.refl _).alloc _
                have BI10 : Hid (Sl v10 5 (some ⟨b10, 0, none⟩) 1 1 ([newWo].flatMap encW)) := by unfold Hid; rw [hv10, hb10]; exact builtS (w := wd) (t := 56) 5 1 #[.string ⟨#[110, 101, 119]⟩, .int .i64 65535, .bool false, .int .i64 0, .slice none 0 0] ([newWo].flatMap encW) rfl rfl (by decide)
                have LB10 : b10 < v10.heap.size := by rw [hv10, hb10]; simp
                have X10q := Lib.hid (XD.out.grew gz10)
                rw [← hv10] at S10 ⊢
                rw [← hb10]
                clear hv10 hb10
                refine wpAnyH_step (i := 0) (by kernel_rfl) (fuel' := 4) (by kernel_rfl) (by simp only [pickOps, List.getElem?_toArray, List.getElem?_cons_zero]; rfl) (by rfl) ?_
                intro K hK
                refine wp_value (v := .slice (some ⟨v10.heap.size, 0, none⟩) 0 6) (w' := v10.alloc (.cells #[.string ⟨#[]⟩, .int .i64 0, .bool false, .int .i64 0, .slice none 0 0, .string ⟨#[]⟩, .int .i64 0, .bool false, .int .i64 0, .slice none 0 0, .string ⟨#[]⟩, .int .i64 0, .bool false, .int .i64 0, .slice none 0 0, .string ⟨#[]⟩, .int .i64 0, .bool false, .int .i64 0, .slice none 0 0, .string ⟨#[]⟩, .int .i64 0, .bool false, .int .i64 0, .slice none 0 0, .string ⟨#[]⟩, .int .i64 0, .bool false, .int .i64 0, .slice none 0 0] 56)) (by kernel_rfl) ?_
                have S11 := S10.alloc (.cells #[.string ⟨#[]⟩, .int .i64 0, .bool false, .int .i64 0, .slice none 0 0, .string ⟨#[]⟩, .int .i64 0, .bool false, .int .i64 0, .slice none 0 0, .string ⟨#[]⟩, .int .i64 0, .bool false, .int .i64 0, .slice none 0 0, .string ⟨#[]⟩, .int .i64 0, .bool false, .int .i64 0, .slice none 0 0, .string ⟨#[]⟩, .int .i64 0, .bool false, .int .i64 0, .slice none 0 0, .string ⟨#[]⟩, .int .i64 0, .bool false, .int .i64 0, .slice none 0 0] 56)
                refine hK _ _ S11 ?_
                clear hK K
                try simp only [Act.put, List.setIfInBounds_toArray, List.set_cons_zero, List.set_cons_succ]
                obtain ⟨v11, hv11⟩ : ∃ y, y = v10.alloc (.cells #[.string ⟨#[]⟩, .int .i64 0, .bool false, .int .i64 0, .slice none 0 0, .string ⟨#[]⟩, .int .i64 0, .bool false, .int .i64 0, .slice none 0 0, .string ⟨#[]⟩, .int .i64 0, .bool false, .int .i64 0, .slice none 0 0, .string ⟨#[]⟩, .int .i64 0, .bool false, .int .i64 0, .slice none 0 0, .string ⟨#[]⟩, .int .i64 0, .bool false, .int .i64 0, .slice none 0 0, .string ⟨#[]⟩, .int .i64 0, .bool false, .int .i64 0, .slice none 0 0] 56) := ⟨_, rfl⟩
                obtain ⟨b11, hb11⟩ : ∃ z, z = v10.heap.size := ⟨_, rfl⟩
                have gz11 : Grew v10 v11 := by rw [hv11]; exact (Grew.refl _).alloc _
                have OE11 : Hid (v11.ownsRow w6.heap.size 56 5 (.slice (some ⟨b11, 0, none⟩) 0 6) 0 []) := by unfold Hid; rw [hv11, hb11]; exact make6 S10.le
                have X11q := Lib.hid (X10q.out.grew gz11)
                rw [← hv11] at S11 ⊢
                rw [← hb11]
                have BI11 := Lib.hid (BI10.out.grew gz11)
                have ne11 : Hid (b10 < b11) := by unfold Hid; rw [hb11]; exact LB10
                clear hv11 hb11
                refine wpAnyH_step (i := 3) (by kernel_rfl) (fuel' := 3) (by kernel_rfl) (by simp only [pickOps, List.getElem?_toArray, List.getElem?_cons_zero, List.getElem?_cons_succ]; rfl) (by rfl) ?_
                intro K hK
                refine wp_append_sl _ (.tmp 58) (.tmp 60) 26 rfl w6.heap.size 56 i0 (.agg #[.string ⟨#[]⟩, .int .i64 0, .bool false, .int .i64 0, .slice none 0 0]) 5 64 Tryz.underlying26 hi hz0 hz1 hz2 rfl (by decide) (.slice (some ⟨b11, 0, none⟩) 0 6) 0 _ rfl OE11.out p.W p.wn p.wc _ rfl (HWS.out.grew S11) HONE.out (by unfold maxLen; omega) (by omega) S11.le ?_
                intro x12 v12 own12 hg12 _
                obtain ⟨A12, c12, rfl⟩ := own_form own12
                rw [Nat.zero_add, List.nil_append] at own12
                have S12 : Grew w6 v12 := S11.grown hg12 (fun j hj => (OE11.out.lt j hj).1)
                rw [Nat.zero_add]
                refine hK _ _ S12 ?_
                clear hK K
                try simp only [Act.put, List.setIfInBounds_toArray, List.set_cons_zero, List.set_cons_succ]
                have OW12 := Lib.hid own12
                have X12q := Lib.hid (X11q.out.kept hg12 (own_blk OE11.out X11q.out (by decide)))
                have BI12 := Lib.hid (KeepB.sl BI11.out (KeepB.grown (G := fun k => k ≠ b11) hg12 (fun h => h rfl)) (fun b o h _ => by injection h with h; injection h with h; intro e; subst e; exact (fun e => by have := ne11.out; omega) h))
                clear own12 hg12
                refine wpAnyH_step (i := 6) (by kernel_rfl) (fuel' := 2) (by kernel_rfl) (by simp only [pickOps, List.getElem?_toArray, List.getElem?_cons_zero, List.getElem?_cons_succ]; rfl) (by rfl) ?_
                intro K hK
                refine wp_append_sl _ (.tmp 61) (.tmp 63) 26 rfl w6.heap.size 56 i0 (.agg #[.string ⟨#[]⟩, .int .i64 0, .bool false, .int .i64 0, .slice none 0 0]) 5 64 Tryz.underlying26 hi hz0 hz1 hz2 rfl (by decide) (.slice A12 p.wn c12) p.wn _ rfl OW12.out (some ⟨b10, 0, none⟩) 1 1 _ rfl BI12.out HONE2.out (by unfold maxLen; omega) (by omega) S12.le ?_
                intro x13 v13 own13 hg13 _
                obtain ⟨A13, c13, rfl⟩ := own_form own13
                rw [← List.flatMap_append] at own13
                have S13 : Grew w6 v13 := S12.grown hg13 (fun j hj => (OW12.out.lt j hj).1)
                refine hK _ _ S13 ?_
                clear hK K
                try simp only [Act.put, List.setIfInBounds_toArray, List.set_cons_zero, List.set_cons_succ]
                have OW13 := Lib.hid own13
                have X13q := Lib.hid (X12q.out.kept hg13 (own_blk OW12.out X12q.out (by decide)))
                clear own13 hg13
                refine wpAnyH_takes (fun _ _ _ _ _ h => h) S13 [7] (fuel' := 1) (by kernel_rfl) (by kernel_rfl) (by simp only [pickOps, List.getElem?_toArray, List.getElem?_cons_zero, List.getElem?_cons_succ]; rfl) ?_
                (refine TakeP.pure (v := ?_) (by rfl) ?_ ?_; rotate_left; (intro w' g'; go_simp; first | done | with_reducible rfl); (simp only [Act.put, List.setIfInBounds_toArray, List.set_cons_zero, List.set_cons_succ]))
                refine TakeP.nil ?_
                refine wpAnyH_step (i := 8) (by kernel_rfl) (fuel' := 0) (by kernel_rfl) (by simp only [pickOps, List.getElem?_toArray, List.getElem?_cons_zero, List.getElem?_cons_succ]; rfl) (by rfl) ?_
                intro K hK
                have u14 : v13.cell? ⟨qb, 4, none⟩ = some (.slice p.W p.wn p.wc) := X13q.out.cell rfl
                have f14 := X13q.out.frozen 4
                go_simp
                have k14 := grown_set v13 qb 4 (.slice A13 (p.wn + 1) c13)
                have S14 : Grew w6 (v13.setCell ⟨qb, 4, none⟩ (.slice A13 (p.wn + 1) c13)) := S13.grown k14 (fun j hj => by injection hj with hj; have := HQB.out; omega)
                refine hK _ _ S14 ?_
                clear hK K
                refine wpAnyH_done (by kernel_rfl) ?_ _
                have J := HJ.out (.slice (some ⟨b11, 0, none⟩) 0 6, .slice A12 p.wn c12, .slice (some ⟨b10, 0, none⟩) 1 1, A13, c13) _ ⟨Lib.hid (own_set OW13.out X13q.out (by decide) 4 (.slice A13 (p.wn + 1) c13)), Lib.hid (X13q.out.set 4 (.slice A13 (p.wn + 1) c13)), Lib.hid S14⟩
                simp only [Act.put, List.setIfInBounds_toArray, List.set_cons_zero, List.set_cons_succ] at J
                exact J
            · rintro ⟨y58, y61, y63, QA, qc⟩ w7 ⟨HQO, HQ7, HG7⟩
              simp only at HQO HQ7
              simp only [Act.put, List.setIfInBounds_toArray, List.set_cons_zero, List.set_cons_succ]
              have X7 := Lib.hid (X6.out.grew HG7.out)
              have HG67 := Lib.hid (HG6.out.trans HG7.out)
              have v3 : w7.cell? ⟨tb, 3, none⟩ = some (.slice p.D p.dn p.dc) := X7.out.cell rfl
              by_cases hd1 : p.dn = 1
              · have r4 : decide ((p.dn : Int) > 1) = false := decide_eq_false (by omega)
                have r5 : decide ((1 : Int) < (p.dn : Int)) = false := decide_eq_false (by omega)
                have r6 : decide (1 < p.dn) = false := decide_eq_false (by omega)
                have u0 : w7.cell? ⟨qb, 0, none⟩ = some (.string p.nm) := HQ7.out.cell rfl
                have u1 : w7.cell? ⟨qb, 1, none⟩ = some (.int .i64 p.zb) := HQ7.out.cell rfl
                have u2 : w7.cell? ⟨qb, 2, none⟩ = some (.slice p.C p.cn p.cc) := HQ7.out.cell rfl
                have u3 : w7.cell? ⟨qb, 3, none⟩ = some (.slice p.D p.dn p.dc) := HQ7.out.cell rfl
                have u4 : w7.cell? ⟨qb, 4, none⟩ = some (.slice QA (p.wn + 1) qc) := HQ7.out.cell rfl
                have u5 : w7.cell? ⟨qb, 5, none⟩ = some (.int .i64 p.lm.rest) := HQ7.out.cell rfl
                have u6 : w7.cell? ⟨qb, 6, none⟩ = some (.int .i64 p.lm.week) := HQ7.out.cell rfl
                have u7 : w7.cell? ⟨qb, 7, none⟩ = some (.int .i64 p.lm.nf) := HQ7.out.cell rfl
                have u8 : w7.cell? ⟨qb, 8, none⟩ = some (.int .i64 p.lm.nt) := HQ7.out.cell rfl
                have u9 : w7.cell? ⟨qb, 9, none⟩ = some (.int .i64 p.lm.mn) := HQ7.out.cell rfl
                have hq : PlanAt w7 (p.add QA qc) := add_at (HP.out.grew HG67.out) (Recs.own (l := p.ws ++ [newWo]) (by rw [List.length_append, List.length_singleton, HP.out.ws.1.1]) HQO.out)
                have HQP := Lib.hid hq
                have HOQ : Hid (planB (p.add QA qc) = true) := add_ok HOK.out hw4
                have HD1 := Lib.hid hd1
                clear hq hd1 hd0 HQO
                go_wp2_with fail
                refine (solve13 (p.add QA qc) 4000 w7 HQP.out).mono ?_
                rintro r w8 ⟨BB, bc2, GB, gc2, rfl, hown2, hlog2, g8⟩
                clear u0 u1 u2 u3 u4 u5 u6 u7 u8 u9 v3 r4 r5 r6 hown2 hlog2
                obtain ⟨⟨l2, d2, lg2, f2⟩, hs2⟩ : ∃ s, solF (p.add QA qc) 4000 = s := ⟨_, rfl⟩
                rw [hs2]
                simp only
                have HS2 := Lib.hid hs2
                have HG8 := Lib.hid (HG67.out.trans g8)
                have X8 := Lib.hid (X7.out.grew g8)
                have HQ8 := Lib.hid (HQ7.out.grew g8)
                have HG78 := Lib.hid g8
                obtain ⟨bd, od, z, hD, hz, ⟨f0, f1, _⟩, hzb⟩ := (HP.out.grew HG8.out).ds.at_ (show 0 < p.dn by have := HD1.out; omega)
                rw [Nat.zero_mul, Nat.add_zero] at f0 f1
                have hdu : p.du 0 = z := du_at hz
                have hbd : 0 ≤ (p.du 0).b - (p.du 0).a ∧ (p.du 0).b - (p.du 0).a ≤ 1440 := (env_bd HP.out HOK.out).dur 0
                rw [hdu] at hbd
                obtain ⟨za, zb, zs⟩ := z
                simp only at hbd f0 f1
                have m1 : IntKind.i64.wrap (zb - za) = zb - za := IntWalk.i64_in _ (by omega)
                obtain ⟨wk, hwk⟩ : ∃ b, decide (p.lm.week < zb - za) = b := ⟨_, rfl⟩
                have q2 : decide (zb - za > p.lm.week) = wk := hwk
                have HWK : Hid (wk = false → (p.du 0).b - (p.du 0).a ≤ p.lm.week) := fun h => by
                  rw [hdu]
                  have := of_decide_eq_false (hwk.trans h)
                  show zb - za ≤ p.lm.week
                  omega
                have v3 : w8.cell? ⟨tb, 3, none⟩ = some (.slice p.D p.dn p.dc) := X8.out.cell rfl
                have v6 : w8.cell? ⟨tb, 6, none⟩ = some (.int .i64 p.lm.week) := X8.out.cell rfl
                have i1 : (0 : Int) < (p.dn : Int) := by have := HD1.out; omega
                have i2 : 0 < p.dn := by have := HD1.out; omega
                have hC : ∀ w', Grew w8.drew w' → w'.cell? ⟨tb, 3, none⟩ = some (.slice (some ⟨bd, od, none⟩) p.dn p.dc) ∧ w'.cell? ⟨tb, 6, none⟩ = some (.int .i64 p.lm.week) ∧ w'.cell? ⟨bd, od, none⟩ = some (.int .i64 za) ∧ w'.cell? ⟨bd, od + 1, none⟩ = some (.int .i64 zb) := fun w' g' => by
                  have gg := (Grew.refl w8).drew.trans g'
                  rw [hD] at v3
                  exact ⟨gg.cell v3, gg.cell v6, gg.cell f0, gg.cell f1⟩
                have HC := Lib.hid hC
                clear hC hD hz hzb hdu hbd v3 v6 f0 f1 hs2 g8
                go_upto_region 13 with (fail)
                refine wp_region_seq (by kernel_rfl) Grew.refl (fun _ _ _ => Grew.trans) (fun _ _ _ _ _ h => h) (by kernel_rfl) ?_
                repeat (first
                  | (refine TakeAll.pure (v := ?_) (by rfl) ?_ ?_; rotate_left; (intro w' g'; obtain ⟨q_0, q_1, q_2, q_3⟩ := HC.out w' g'; go_simp; first | done | with_reducible rfl); (simp only [Act.put, List.setIfInBounds_toArray, List.set_cons_zero, List.set_cons_succ]))
                  | (refine TakeAll.skip (by rfl) ?_; (simp only [Act.put, List.setIfInBounds_toArray, List.set_cons_zero, List.set_cons_succ])))
                refine TakeAll.nil ?_
                intro w9 g9
                have HG9 := Lib.hid (HG8.out.trans ((Grew.refl w8).drew.trans g9))
                have HG79 := Lib.hid (HG78.out.trans ((Grew.refl w8).drew.trans g9))
                have HQ9 := Lib.hid (HQ8.out.grew ((Grew.refl w8).drew.trans g9))
                clear g9 HC hwk q2 m1 HG8 HG78 HQ8 X8 HQ7 X7
                by_cases hf : f2 = 0
                · have HSOL : Hid (wk = false → d2 = 0 ∧ l2.length = 1) := fun h => by
                    have e : solve (envP (p.add QA qc)) 4000 = (l2, d2, lg2, 0) := by
                      have h1 := HS2.out
                      unfold solF at h1
                      rw [if_pos ⟨HOQ.out, by decide, by decide⟩, hf] at h1
                      exact h1
                    exact add_solve HQP.out HOQ.out HD1.out (HWK.out h) e
                  subst hf
                  cases wk with
                  | true =>
                    clear HSOL
                    go_wp2
                    go_ret
                    exact ⟨rfl, HG9.out⟩
                  | false =>
                    obtain ⟨e1, e2⟩ := HSOL.out rfl
                    subst e1
                    rw [e2]
                    clear e2 HSOL
                    by_cases hb0 : bound ≤ 0
                    · have q3 : decide (bound ≤ 0) = true := decide_eq_true hb0
                      clear hb0
                      go_wp2
                      go_ret
                      exact ⟨rfl, HG9.out⟩
                    · have q3 : decide (bound ≤ 0) = false := decide_eq_false hb0
                      have HCF : Hid (chkB (p.add QA qc) bound log = false) := by
                        unfold Hid
                        cases h : chkB (p.add QA qc) bound log with
                        | false => rfl
                        | true =>
                          unfold chkB at h
                          rw [Bool.and_eq_true, Bool.and_eq_true] at h
                          exact absurd (add_check HQP.out HOQ.out HD1.out (HWK.out rfl) h.2.2) hb0
                      clear hb0
                      have u0 : w9.cell? ⟨qb, 0, none⟩ = some (.string p.nm) := HQ9.out.cell rfl
                      have u1 : w9.cell? ⟨qb, 1, none⟩ = some (.int .i64 p.zb) := HQ9.out.cell rfl
                      have u2 : w9.cell? ⟨qb, 2, none⟩ = some (.slice p.C p.cn p.cc) := HQ9.out.cell rfl
                      have u3 : w9.cell? ⟨qb, 3, none⟩ = some (.slice p.D p.dn p.dc) := HQ9.out.cell rfl
                      have u4 : w9.cell? ⟨qb, 4, none⟩ = some (.slice QA (p.wn + 1) qc) := HQ9.out.cell rfl
                      have u5 : w9.cell? ⟨qb, 5, none⟩ = some (.int .i64 p.lm.rest) := HQ9.out.cell rfl
                      have u6 : w9.cell? ⟨qb, 6, none⟩ = some (.int .i64 p.lm.week) := HQ9.out.cell rfl
                      have u7 : w9.cell? ⟨qb, 7, none⟩ = some (.int .i64 p.lm.nf) := HQ9.out.cell rfl
                      have u8 : w9.cell? ⟨qb, 8, none⟩ = some (.int .i64 p.lm.nt) := HQ9.out.cell rfl
                      have u9 : w9.cell? ⟨qb, 9, none⟩ = some (.int .i64 p.lm.mn) := HQ9.out.cell rfl
                      go_wp2_with fail
                      refine (check17 (p := p.add QA qc) (t := false) (HQP.out.grew HG79.out) (HL.out.grew HG9.out) HSZ.out HCF.out).mono ?_
                      rintro r w10 ⟨rfl, g10⟩
                      have HG10 := Lib.hid (HG9.out.trans g10)
                      clear u0 u1 u2 u3 u4 u5 u6 u7 u8 u9 g10
                      go_wp2
                      go_ret
                      exact ⟨rfl, HG10.out⟩
                · have qf1 : (f2 != 0) = true := by simpa using hf
                  have qf2 : (f2 == 0) = false := by simpa using hf
                  clear hf
                  cases wk with
                  | true =>
                    go_wp2
                    go_ret
                    exact ⟨rfl, HG9.out⟩
                  | false =>
                    skip
                    by_cases hb0 : bound ≤ 0
                    · have q3 : decide (bound ≤ 0) = true := decide_eq_true hb0
                      clear hb0
                      go_wp2
                      go_ret
                      exact ⟨rfl, HG9.out⟩
                    · have q3 : decide (bound ≤ 0) = false := decide_eq_false hb0
                      have HCF : Hid (chkB (p.add QA qc) bound log = false) := by
                        unfold Hid
                        cases h : chkB (p.add QA qc) bound log with
                        | false => rfl
                        | true =>
                          unfold chkB at h
                          rw [Bool.and_eq_true, Bool.and_eq_true] at h
                          exact absurd (add_check HQP.out HOQ.out HD1.out (HWK.out rfl) h.2.2) hb0
                      clear hb0
                      have u0 : w9.cell? ⟨qb, 0, none⟩ = some (.string p.nm) := HQ9.out.cell rfl
                      have u1 : w9.cell? ⟨qb, 1, none⟩ = some (.int .i64 p.zb) := HQ9.out.cell rfl
                      have u2 : w9.cell? ⟨qb, 2, none⟩ = some (.slice p.C p.cn p.cc) := HQ9.out.cell rfl
                      have u3 : w9.cell? ⟨qb, 3, none⟩ = some (.slice p.D p.dn p.dc) := HQ9.out.cell rfl
                      have u4 : w9.cell? ⟨qb, 4, none⟩ = some (.slice QA (p.wn + 1) qc) := HQ9.out.cell rfl
                      have u5 : w9.cell? ⟨qb, 5, none⟩ = some (.int .i64 p.lm.rest) := HQ9.out.cell rfl
                      have u6 : w9.cell? ⟨qb, 6, none⟩ = some (.int .i64 p.lm.week) := HQ9.out.cell rfl
                      have u7 : w9.cell? ⟨qb, 7, none⟩ = some (.int .i64 p.lm.nf) := HQ9.out.cell rfl
                      have u8 : w9.cell? ⟨qb, 8, none⟩ = some (.int .i64 p.lm.nt) := HQ9.out.cell rfl
                      have u9 : w9.cell? ⟨qb, 9, none⟩ = some (.int .i64 p.lm.mn) := HQ9.out.cell rfl
                      go_wp2_with fail
                      refine (check17 (p := p.add QA qc) (t := false) (HQP.out.grew HG79.out) (HL.out.grew HG9.out) HSZ.out HCF.out).mono ?_
                      rintro r w10 ⟨rfl, g10⟩
                      have HG10 := Lib.hid (HG9.out.trans g10)
                      clear u0 u1 u2 u3 u4 u5 u6 u7 u8 u9 g10
                      go_wp2
                      go_ret
                      exact ⟨rfl, HG10.out⟩
              · have r4 : decide ((p.dn : Int) > 1) = true := decide_eq_true (by omega)
                have r5 : decide ((1 : Int) < (p.dn : Int)) = true := decide_eq_true (by omega)
                have r6 : decide (1 < p.dn) = true := decide_eq_true (by omega)
                clear hd0 hd1
                go_wp2
                go_ret
                exact ⟨rfl, HG67.out⟩)
end Go.Proofs.YtnnbibmmofnkdaaGreat
