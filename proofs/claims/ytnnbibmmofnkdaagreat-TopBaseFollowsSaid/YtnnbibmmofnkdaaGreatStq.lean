/-
 Refutations: Step, of a valid plan at a step of the log.
-/
import Derived.Test.YtnnbibmmofnkdaaGreatRefN
namespace Go.Proofs.YtnnbibmmofnkdaaGreat
open Go.RowKit Go.Proofs WageMem WageReg WageRec WageSpan WageTop
set_option maxRecDepth 100000 in
set_option maxHeartbeats 16000000 in
theorem step26 {w : World} {p : Pl} {bound : Int} {LA : Option Addr} {ln lc : Nat} {log : List Stp} {kk : Nat} {t : Bool} (hp : PlanAt w p) (hok : planB p = true) (hl : LgRd w LA ln lc log) (hsz : ∀ s ∈ log, s.cl.length ≤ 1000) (h2 : ln ≤ 20000) (hk : kk < ln) (ht : folB p bound log kk = t) :
  Calls Tryz.prog 26 #[planV p, .int .i64 bound, .slice LA ln lc, .int .i64 (kk : Int)] w fun e w' => e = .returned (.bool t) ∧ Grew w w' := by
 have HP := Lib.hid hp
 have HL := Lib.hid hl
 have HSZ := Lib.hid hsz
 have HT := Lib.hid ht
 have HOK := Lib.hid hok
 clear hp hl hsz ht hok
 show Calls Tryz.prog 26 #[.agg #[.string p.nm, .int .i64 p.zb, .slice p.C p.cn p.cc, .slice p.D p.dn p.dc, .slice p.W p.wn p.wc, .int .i64 p.lm.rest, .int .i64 p.lm.week, .int .i64 p.lm.nf, .int .i64 p.lm.nt, .int .i64 p.lm.mn], .int .i64 bound, .slice LA ln lc, .int .i64 (kk : Int)] w _
 obtain ⟨w1, hw1⟩ : ∃ y, y = w.alloc (.cells #[.string p.nm, .int .i64 p.zb, .slice p.C p.cn p.cc, .slice p.D p.dn p.dc, .slice p.W p.wn p.wc, .int .i64 p.lm.rest, .int .i64 p.lm.week, .int .i64 p.lm.nf, .int .i64 p.lm.nt, .int .i64 p.lm.mn] 32) := ⟨_, rfl⟩
 obtain ⟨tb, htb⟩ : ∃ z, z = w.heap.size := ⟨_, rfl⟩
 have g1 : Grew w w1 := by rw [hw1]; exact (Grew.refl w).alloc _
 have X1 : Hid (Blk w1 tb 32 (planC p)) := by unfold Hid; rw [hw1, htb]; exact Blk.new w 32 (planC p)
 go_enter Tryz.func26, Tryz.ntmps26
 go_upto_region 1 with (fail)
 rw [← hw1, ← htb]
 clear hw1 htb
 have HG1 := Lib.hid g1
 have v0 : w1.cell? ⟨tb, 0, none⟩ = some (.string p.nm) := X1.out.cell rfl
 have v1 : w1.cell? ⟨tb, 1, none⟩ = some (.int .i64 p.zb) := X1.out.cell rfl
 have v2 : w1.cell? ⟨tb, 2, none⟩ = some (.slice p.C p.cn p.cc) := X1.out.cell rfl
 have v3 : w1.cell? ⟨tb, 3, none⟩ = some (.slice p.D p.dn p.dc) := X1.out.cell rfl
 have v4 : w1.cell? ⟨tb, 4, none⟩ = some (.slice p.W p.wn p.wc) := X1.out.cell rfl
 have v5 : w1.cell? ⟨tb, 5, none⟩ = some (.int .i64 p.lm.rest) := X1.out.cell rfl
 have v6 : w1.cell? ⟨tb, 6, none⟩ = some (.int .i64 p.lm.week) := X1.out.cell rfl
 have v7 : w1.cell? ⟨tb, 7, none⟩ = some (.int .i64 p.lm.nf) := X1.out.cell rfl
 have v8 : w1.cell? ⟨tb, 8, none⟩ = some (.int .i64 p.lm.nt) := X1.out.cell rfl
 have v9 : w1.cell? ⟨tb, 9, none⟩ = some (.int .i64 p.lm.mn) := X1.out.cell rfl
 clear g1
 go_wp2_with fail
 refine (newPlan40 p w1 (HP.out.grew HG1.out)).mono ?_
 intro r w2 hr
 clear v0 v1 v2 v3 v4 v5 v6 v7 v8 v9
 rcases hr with ⟨hok, M, N, ps, rfl, hfa, g2⟩ | ⟨hok, rfl, g2⟩
 ·have HG := Lib.hid (HG1.out.trans g2)
  have HFA := Lib.hid hfa
  obtain ⟨ch, hch⟩ : ∃ z, cheapest (envP p) p.wn = z := ⟨_, rfl⟩
  have HCH := Lib.hid hch
  rw [hch, show (npC p M N ch).toArray = #[.string p.nm, .int .i64 p.zb, .slice p.C p.cn p.cc, .slice p.D p.dn p.dc, .slice p.W p.wn p.wc, .int .i64 p.lm.rest, .int .i64 p.lm.week, .int .i64 p.lm.nf, .int .i64 p.lm.nt, .int .i64 p.lm.mn, .slice M.A M.n M.c, .slice N.A N.n N.c, .int .i64 ch] from rfl]
  clear g2 hfa hok hch
  obtain ⟨w3, hw3⟩ : ∃ y, y = w2.alloc (.cells #[.string p.nm, .int .i64 p.zb, .slice p.C p.cn p.cc, .slice p.D p.dn p.dc, .slice p.W p.wn p.wc, .int .i64 p.lm.rest, .int .i64 p.lm.week, .int .i64 p.lm.nf, .int .i64 p.lm.nt, .int .i64 p.lm.mn, .slice M.A M.n M.c, .slice N.A N.n N.c, .int .i64 ch] 99) := ⟨_, rfl⟩
  obtain ⟨fb, hfb⟩ : ∃ z, z = w2.heap.size := ⟨_, rfl⟩
  have g3 : Grew w2 w3 := by rw [hw3]; exact (Grew.refl w2).alloc _
  have HFB : Hid (Blk w3 fb 99 (npC p M N ch)) := by unfold Hid; rw [hw3, hfb]; exact Blk.new w2 99 (npC p M N ch)
  go_upto_region 2 with (fail)
  rw [← hw3, ← hfb]
  clear hw3 hfb
  have HG3 := Lib.hid (HG.out.trans g3)
  have g3' := Lib.hid g3
  clear g3
  have r2 : decide ((ln : Int) > 20000) = false := decide_eq_false (by omega)
  have r2' : decide ((20000 : Int) < (ln : Int)) = false := decide_eq_false (by omega)
  have r2'' : decide (20000 < ln) = false := decide_eq_false (by omega)
  have r3 : decide ((kk : Int) < 0) = false := decide_eq_false (by omega)
  have r4 : decide ((kk : Int) ≥ (ln : Int)) = false := decide_eq_false (by omega)
  have r4' : decide ((ln : Int) ≤ (kk : Int)) = false := decide_eq_false (by omega)
  have r4'' : decide (ln ≤ kk) = false := decide_eq_false (by omega)
  have u0 : w3.cell? ⟨fb, 0, none⟩ = some (.string p.nm) := HFB.out.cell rfl
  have u1 : w3.cell? ⟨fb, 1, none⟩ = some (.int .i64 p.zb) := HFB.out.cell rfl
  have u2 : w3.cell? ⟨fb, 2, none⟩ = some (.slice p.C p.cn p.cc) := HFB.out.cell rfl
  have u3 : w3.cell? ⟨fb, 3, none⟩ = some (.slice p.D p.dn p.dc) := HFB.out.cell rfl
  have u4 : w3.cell? ⟨fb, 4, none⟩ = some (.slice p.W p.wn p.wc) := HFB.out.cell rfl
  have u5 : w3.cell? ⟨fb, 5, none⟩ = some (.int .i64 p.lm.rest) := HFB.out.cell rfl
  have u6 : w3.cell? ⟨fb, 6, none⟩ = some (.int .i64 p.lm.week) := HFB.out.cell rfl
  have u7 : w3.cell? ⟨fb, 7, none⟩ = some (.int .i64 p.lm.nf) := HFB.out.cell rfl
  have u8 : w3.cell? ⟨fb, 8, none⟩ = some (.int .i64 p.lm.nt) := HFB.out.cell rfl
  have u9 : w3.cell? ⟨fb, 9, none⟩ = some (.int .i64 p.lm.mn) := HFB.out.cell rfl
  have u10 : w3.cell? ⟨fb, 10, none⟩ = some (.slice M.A M.n M.c) := HFB.out.cell rfl
  have u11 : w3.cell? ⟨fb, 11, none⟩ = some (.slice N.A N.n N.c) := HFB.out.cell rfl
  have u12 : w3.cell? ⟨fb, 12, none⟩ = some (.int .i64 ch) := HFB.out.cell rfl
  obtain ⟨w4, hw4⟩ : ∃ y, y = w3.alloc (.cells #[.string p.nm, .int .i64 p.zb, .slice p.C p.cn p.cc, .slice p.D p.dn p.dc, .slice p.W p.wn p.wc, .int .i64 p.lm.rest, .int .i64 p.lm.week, .int .i64 p.lm.nf, .int .i64 p.lm.nt, .int .i64 p.lm.mn, .slice M.A M.n M.c, .slice N.A N.n N.c, .int .i64 ch, .int .i64 bound, .slice LA ln lc, .int .i64 0] 104) := ⟨_, rfl⟩
  obtain ⟨cb, hcb⟩ : ∃ z, z = w3.heap.size := ⟨_, rfl⟩
  have g4 : Grew w3 w4 := by rw [hw4]; exact (Grew.refl w3).alloc _
  have HCB : Hid (Blk w4 cb 104 (chC p M N bound LA ln lc 0)) := by unfold Hid; rw [hw4, hcb]; exact (HCH.out ▸ Blk.new w3 104 [.string p.nm, .int .i64 p.zb, .slice p.C p.cn p.cc, .slice p.D p.dn p.dc, .slice p.W p.wn p.wc, .int .i64 p.lm.rest, .int .i64 p.lm.week, .int .i64 p.lm.nf, .int .i64 p.lm.nt, .int .i64 p.lm.mn, .slice M.A M.n M.c, .slice N.A N.n N.c, .int .i64 ch, .int .i64 bound, .slice LA ln lc, .int .i64 0])
  go_upto_region 4 with (fail)
  clear r2 r2' r2'' r3 r4 r4' r4''
  go_upto_region 5 with (fail)
  rw [← hw4, ← hcb]
  have HLE : Hid (w3.heap.size ≤ cb) := by unfold Hid; rw [hcb]; exact Nat.le_refl _
  have HF3 : Hid (FactAt w3 p M N ps) := HFA.out.grew g3'.out
  have HL3 : Hid (LgRd w3 LA ln lc log) := HL.out.grew HG3.out
  have HG4 := Lib.hid g4
  clear hw4 hcb g4 u0 u1 u2 u3 u4 u5 u6 u7 u8 u9 u10 u11 u12
  go_wp2_with fail
  refine (follows41 HF3.out HOK.out HL3.out HG4.out HLE.out HCB.out hk HSZ.out).mono ?_
  rintro r w6 ⟨rfl, HB6, HG6⟩
  rw [HT.out]
  have HGF := Lib.hid (HG3.out.trans HG6)
  clear HB6 HG6 HCB HG4
  go_wp2
  go_ret
  exact ⟨rfl, HGF.out⟩
 ·exact absurd HOK.out (by rw [hok]; decide)
end Go.Proofs.YtnnbibmmofnkdaaGreat
