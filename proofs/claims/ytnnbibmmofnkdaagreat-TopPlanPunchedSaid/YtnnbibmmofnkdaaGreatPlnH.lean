/-
 The planner: Solve.
-/
import Derived.Test.YtnnbibmmofnkdaaGreatPlnG
import Derived.Test.YtnnbibmmofnkdaaGreatEok
import Derived.Laws.EntriesVeiled
namespace Go.Proofs.YtnnbibmmofnkdaaGreat
open Go.RowKit Go.Proofs WageMem WageReg WageRec WageSpan WageTop
/-- What the planner answers. -/
def solF (p : Pl) (fuel : Int) : List Int × Int × List Stp × Int := if planB p = true ∧ 0 ≤ fuel ∧ fuel ≤ 100000 then solve (envP p) fuel else ([], 0, [], 1)
theorem solve_fuel {E : Env} {fuel : Int} (h : (improve E E.nD [] 0 ⟨fuel, false, [], 0⟩).2 = false) : solve E fuel = ([], 0, [], 201) := by
 unfold solve
 split
 ·rfl
 ·rename_i s hs; rw [hs] at h; cases h
theorem solve_shift {E : Env} {fuel : Int} {s : St} (h : improve E E.nD [] 0 ⟨fuel, false, [], 0⟩ = (s, true)) (hf : s.found = false) : solve E fuel = ([], 0, [], 171) := by
 unfold solve
 rw [h]
 simp only [hf, if_true]
theorem solve_none {E : Env} {fuel : Int} {s : St} (h : improve E E.nD [] 0 ⟨fuel, false, [], 0⟩ = (s, true)) (hf : s.found = true) (h0 : E.nD = 0) : solve E fuel = ([], 0, [], 0) := by
 unfold solve
 rw [h]
 simp only
 rw [if_neg (by rw [hf]; simp), if_pos h0]
theorem solve_fuel2 {E : Env} {fuel : Int} {s : St} (h : improve E E.nD [] 0 ⟨fuel, false, [], 0⟩ = (s, true)) (hf : s.found = true) (h0 : E.nD ≠ 0) (hr : (refuteF E s.cost E.nD [] 0 ⟨s.fuel, someLog E⟩).2 = none) : solve E fuel = ([], 0, [], 201) := by
 unfold solve
 rw [h]
 simp only
 rw [if_neg (by rw [hf]; simp), if_neg h0]
 split
 ·rfl
 ·rename_i r j hh; rw [hh] at hr; cases hr
theorem solve_all {E : Env} {fuel : Int} {s : St} (h : improve E E.nD [] 0 ⟨fuel, false, [], 0⟩ = (s, true)) (hf : s.found = true) (h0 : E.nD ≠ 0) {j : Int} (hr : (refuteF E s.cost E.nD [] 0 ⟨s.fuel, someLog E⟩).2 = some j) : solve E fuel = (s.best, s.cost, (refuteF E s.cost E.nD [] 0 ⟨s.fuel, someLog E⟩).1.log, 0) := by
 unfold solve
 rw [h]
 simp only
 rw [if_neg (by rw [hf]; simp), if_neg h0]
 split
 ·rename_i r hh; rw [hh] at hr; cases hr
 ·rename_i r j hh; rw [hh]
theorem best_len {E : Env} (ok : E.Ok) {fuel : Int} {s : St} (h : improve E E.nD [] 0 ⟨fuel, false, [], 0⟩ = (s, true)) (hf : s.found = true) : s.best.length = E.nD ∧ ∀ a, Work E [] a → s.cost ≤ costF E 0 a := by
 have hd := improve_done ok E.nD [] 0 _ s (by simp) (fun x hx => by cases hx) (fun q hq => by simp at hq) rfl (fun h => by cases h) h
 exact ⟨(hd.sound hf).1.1, fun a ha => (hd.least a ha).2⟩
theorem make_own {w : World} {base m : Nat} (hb : base ≤ w.heap.size) (hm : m ≤ 1000) : (w.alloc (.cells (List.replicate m (Value.int .i64 0)).toArray 3)).ownsRow base 3 1 (.slice (some ⟨w.heap.size, 0, none⟩) 0 m) 0 [] :=
 ⟨rfl, .inr ⟨w.heap.size, m, _, rfl, hb, World.alloc_heap_new w _, Nat.zero_le _, by unfold maxLen; omega, by simp, by simp⟩⟩
theorem res4 {fn : Func} {a b c d : Tmp} (h : fn.results = #[.tmp a, .tmp b, .tmp c, .tmp d]) (tmps : Array Value) (P : Program) (w : World) :
  (results fn tmps).run P w = .ok (.tuple #[tmps.getD a undef, tmps.getD b undef, tmps.getD c undef, tmps.getD d undef]) w := by
 simp [results, h]
/-- What Solve returns. -/
def RetSo (p : Pl) (fuel : Int) (w : World) (r : Ending) (w' : World) : Prop :=
 ∃ BA bc GA gc, r = .returned (.tuple #[.slice BA (solF p fuel).1.length bc, .int .i64 (solF p fuel).2.1, .slice GA (solF p fuel).2.2.1.length gc, .int .i64 (solF p fuel).2.2.2]) ∧ w'.ownsRow w.heap.size 3 1 (.slice BA (solF p fuel).1.length bc) (solF p fuel).1.length ((solF p fuel).1.map iv) ∧ LogAt w.heap.size (fun _ => True) w' (.slice GA (solF p fuel).2.2.1.length gc) (solF p fuel).2.2.1 ∧ Grew w w'
theorem ret_err {p : Pl} {fuel : Int} {w w' : World} {r : Ending} {e : Int} (h : solF p fuel = ([], 0, [], e)) (hr : r = .returned (.tuple #[.slice none 0 0, .int .i64 0, .slice none 0 0, .int .i64 e])) (g : Grew w w') : RetSo p fuel w r w' := by
 refine ⟨none, 0, none, 0, ?_, ?_, ?_, g⟩
 ·rw [h]; exact hr
 ·rw [h]; exact World.ownsRow_nil _ _ _ _
 ·rw [h]; exact LogAt.nil
theorem ret_ok {p : Pl} {fuel : Int} {w w' : World} {r : Ending} {l : List Int} {c : Int} {log : List Stp} {BA GA : Option Addr} {n m bc gc : Nat} (h : solF p fuel = (l, c, log, 0)) (hr : r = .returned (.tuple #[.slice BA n bc, .int .i64 c, .slice GA m gc, .int .i64 0])) (hn : l.length = n) (hm : log.length = m) (ho : w'.ownsRow w.heap.size 3 1 (.slice BA n bc) n (l.map iv)) (hl : LogAt w.heap.size (fun _ => True) w' (.slice GA m gc) log) (g : Grew w w') : RetSo p fuel w r w' := by
 subst hn hm
 refine ⟨BA, bc, GA, gc, ?_, ?_, ?_, g⟩
 ·rw [h]; exact hr
 ·rw [h]; exact ho
 ·rw [h]; exact hl
theorem LogAt.base {a b : Nat} {Pr : Nat → Prop} {y : World} {G : Value} {log : List Stp} (h : LogAt a Pr y G log) (hb : b ≤ a) : LogAt b (fun _ => True) y G log := by
 obtain ⟨qs, h4, h5, h6⟩ := h
 exact ⟨qs, own_base h4 hb, h5, fun i q s hq hs => by
  obtain ⟨a1, a2, a3, a4, a5, _⟩ := h6 i q s hq hs
  exact ⟨a1, a2, own_base a3 hb, a4, own_base a5 hb, fun _ _ => trivial⟩⟩
set_option maxRecDepth 100000 in
set_option maxHeartbeats 16000000 in
theorem solve13 (p : Pl) (fuel : Int) (w : World) (hp : PlanAt w p) : Calls Tryz.prog 13 #[planV p, .int .i64 fuel] w (RetSo p fuel w) := by
 have HP := Lib.hid hp
 have dn9 := hp.ds.le
 clear hp
 show Calls Tryz.prog 13 #[.agg #[.string p.nm, .int .i64 p.zb, .slice p.C p.cn p.cc, .slice p.D p.dn p.dc, .slice p.W p.wn p.wc, .int .i64 p.lm.rest, .int .i64 p.lm.week, .int .i64 p.lm.nf, .int .i64 p.lm.nt, .int .i64 p.lm.mn], .int .i64 fuel] w _
 obtain ⟨w1, hw1⟩ : ∃ y, y = w.alloc (.cells #[.string p.nm, .int .i64 p.zb, .slice p.C p.cn p.cc, .slice p.D p.dn p.dc, .slice p.W p.wn p.wc, .int .i64 p.lm.rest, .int .i64 p.lm.week, .int .i64 p.lm.nf, .int .i64 p.lm.nt, .int .i64 p.lm.mn] 32) := ⟨_, rfl⟩
 obtain ⟨tb, htb⟩ : ∃ z, z = w.heap.size := ⟨_, rfl⟩
 have g1 : Grew w w1 := by rw [hw1]; exact (Grew.refl w).alloc _
 have X1 : Hid (Blk w1 tb 32 (planC p)) := by unfold Hid; rw [hw1, htb]; exact Blk.new w 32 (planC p)
 go_enter Tryz.func13, Tryz.ntmps13
 go_upto_region 1 with (fail)
 rw [← hw1, ← htb]
 clear hw1 htb
 have HG1 := Lib.hid g1
 have v0 : w1.cell? ⟨tb, 0, none⟩ = some (.string p.nm) := X1.out.cell rfl
 have v1 : w1.cell? ⟨tb, 1, none⟩ = some (.int .i64 p.zb) := X1.out.cell rfl
 have v2 : w1.cell? ⟨tb, 2, none⟩ = some (.slice p.C p.cn p.cc) := X1.out.cell rfl
 have v3 : w1.cell? ⟨tb, 3, none⟩ = some (.slice p.D p.dn p.dc) := X1.out.cell rfl
 have v4 : w1.cell? ⟨tb, 4, none⟩ = some (.slice p.W p.wn p.wc) := X1.out.cell rfl
 have v5 : w1.cell? ⟨tb, 5, none⟩ = some (.int .i64 p.lm.rest) := X1.out.cell rfl
 have v6 : w1.cell? ⟨tb, 6, none⟩ = some (.int .i64 p.lm.week) := X1.out.cell rfl
 have v7 : w1.cell? ⟨tb, 7, none⟩ = some (.int .i64 p.lm.nf) := X1.out.cell rfl
 have v8 : w1.cell? ⟨tb, 8, none⟩ = some (.int .i64 p.lm.nt) := X1.out.cell rfl
 have v9 : w1.cell? ⟨tb, 9, none⟩ = some (.int .i64 p.lm.mn) := X1.out.cell rfl
 clear g1
 go_wp2_with fail
 clear v0 v1 v2 v3 v4 v5 v6 v7 v8 v9
 refine (prep33 p w1 (HP.out.grew HG1.out)).mono ?_
 rintro r w3 (⟨hok, cb, rfl, hck, g3⟩ | ⟨hok, rfl, g3⟩)
 ·have OK := Lib.hid hok
  have HCK := Lib.hid hck
  have HBD := Lib.hid (env_bd hck.1 hok)
  have dn24 : p.dn ≤ 24 := HBD.out.nD
  have HG3 := Lib.hid (HG1.out.trans g3)
  have X3 := Lib.hid (X1.out.grew g3)
  have HTB : Hid (tb < w3.heap.size) := X3.out.lt
  clear hok hck g3 X1
  by_cases hfu : 0 ≤ fuel ∧ fuel ≤ 100000
  ·have q1 : ¬ (fuel < 0) := by omega
   have q2 : ¬ ((100000 : Int) < fuel) := by omega
   have hf1 := hfu.1
   have hf2 := hfu.2
   have HSOL : Hid (solF p fuel = solve (envP p) fuel) := if_pos ⟨OK.out, hfu⟩
   clear hfu
   have v0 : w3.cell? ⟨tb, 0, none⟩ = some (.string p.nm) := X3.out.cell rfl
   have v1 : w3.cell? ⟨tb, 1, none⟩ = some (.int .i64 p.zb) := X3.out.cell rfl
   have v2 : w3.cell? ⟨tb, 2, none⟩ = some (.slice p.C p.cn p.cc) := X3.out.cell rfl
   have v3 : w3.cell? ⟨tb, 3, none⟩ = some (.slice p.D p.dn p.dc) := X3.out.cell rfl
   have v4 : w3.cell? ⟨tb, 4, none⟩ = some (.slice p.W p.wn p.wc) := X3.out.cell rfl
   have v5 : w3.cell? ⟨tb, 5, none⟩ = some (.int .i64 p.lm.rest) := X3.out.cell rfl
   have v6 : w3.cell? ⟨tb, 6, none⟩ = some (.int .i64 p.lm.week) := X3.out.cell rfl
   have v7 : w3.cell? ⟨tb, 7, none⟩ = some (.int .i64 p.lm.nf) := X3.out.cell rfl
   have v8 : w3.cell? ⟨tb, 8, none⟩ = some (.int .i64 p.lm.nt) := X3.out.cell rfl
   have v9 : w3.cell? ⟨tb, 9, none⟩ = some (.int .i64 p.lm.mn) := X3.out.cell rfl
   go_wp2_with fail
   clear v0 v1 v2 v3 v4 v5 v6 v7 v8 v9
   refine (newSearch34 p cb fuel w3 HCK.out.1 OK.out).mono ?_
   rintro r w4 ⟨sb, lb, rfl, hsb, hlb, hsb1, hlb1, g4⟩
   have HB4 := Lib.hid hsb
   have HL4 := Lib.hid hlb
   have HLE := Lib.hid (show w3.heap.size ≤ sb ∧ w3.heap.size ≤ lb from ⟨hsb1, hlb1⟩)
   have HG4 := Lib.hid g4
   have X4 := Lib.hid (X3.out.grew g4)
   have HLS : Hid (lb ≠ sb) := fun e => by
    subst e
    have h1 := hsb
    unfold Blk at h1 hlb
    rw [h1] at hlb
    injection hlb with hlb
    injection hlb with _ hlb _
    cases hlb
   have c13 := hsb.cell (i := 13) (v := .nilFunc) rfl
   have f13 := hsb.frozen 13
   clear hsb hlb hsb1 hlb1 g4
   obtain ⟨wa, hwa⟩ : ∃ q, q = w4.setCell ⟨sb, 13, none⟩ (.func (.func 35) #[.pointer (some ⟨sb, 0, none⟩)] #[]) := ⟨_, rfl⟩
   go_upto_region 6 with (fail)
   rw [← hwa]
   have k13 := grown_set w4 sb 13 (.func (.func 35) #[.pointer (some ⟨sb, 0, none⟩)] #[])
   rw [← hwa] at k13
   have HS_wa : Hid (Blk wa sb 94 (srC p cb (.slice (some ⟨lb, 0, none⟩) (p.dn + 1) (p.dn + 1)) fuel (.func (.func 35) #[.pointer (some ⟨sb, 0, none⟩)] #[]) false (.slice none 0 0) 0 (.slice none 0 0))) := by unfold Hid; rw [hwa]; exact HB4.out.set 13 _
   have HL_wa : Hid (Blk wa lb 3 (lstF (envP p) p.dn 0)) := HL4.out.kept k13 (fun e => HLS.out (by injection e))
   have HG_wa : Hid (Grew w3 wa) := HG4.out.grown k13 (fun q hq => by injection hq with hq; have := HLE.out.1; omega)
   have X_wa : Hid (Blk wa tb 32 (planC p)) := X4.out.kept k13 (fun e => by injection e with e; have := HLE.out.1; have := HTB.out; omega)
   clear k13 c13 f13 HB4 HL4 HG4 X4 hwa
   have hA : ∀ w', Grew wa.drew w' → w'.cell? ⟨sb, 13, none⟩ = some (.func (.func 35) #[.pointer (some ⟨sb, 0, none⟩)] #[]) ∧ w'.cell? ⟨tb, 3, none⟩ = some (.slice p.D p.dn p.dc) := fun w' g' => by
    have gg := (Grew.refl wa).drew.trans g'
    exact ⟨(HS_wa.out.grew gg).cell rfl, (X_wa.out.grew gg).cell rfl⟩
   have HA := Lib.hid hA
   clear hA
   refine wp_region_G (by kernel_rfl) Grew.refl 8 ?_
   refine wpAnyG_takes Grew.refl (fun _ _ _ => Grew.trans) (fun _ _ _ _ _ h => h) [0, 1, 2, 3, 4, 5, 6] (fuel' := 7) (by kernel_rfl) (by kernel_rfl) (by simp only [pickOps, ugT, ug0, ug1]; rfl) ?_
   repeat (first
    | (refine TakeAll.pure (v := ?_) (by rfl) ?_ ?_; rotate_left; (intro w' g'; obtain ⟨q0, q1⟩ := HA.out w' g'; go_simp; first | done | with_reducible rfl); (simp only [Act.put, uzT, uz0, uz1]))
    | (refine TakeAll.skip (by rfl) ?_; (simp only [Act.put, uzT, uz0, uz1])))
   refine TakeAll.nil ?_
   refine wpAnyG_step (i := 7) (by kernel_rfl) (fuel' := 6) (by kernel_rfl) (by simp only [pickOps, ugT, ug0, ug1]; rfl) rfl ?_
   intro y2 g2 K hK
   obtain ⟨y3, hmk, hy3⟩ := make_ints 0 p.dn (by omega) (Nat.zero_le _) y2
   have g3 : Grew y2 y3 := by rw [hy3]; exact (Grew.refl y2).alloc _
   obtain ⟨pb, hpb⟩ : ∃ z, z = y2.heap.size := ⟨_, rfl⟩
   have GY := (Grew.refl wa).drew.trans g2
   have hpl : wa.heap.size ≤ pb := by rw [hpb]; exact GY.le
   have HO3 : Hid (y3.ownsRow w3.heap.size 3 1 (.slice (some ⟨pb, 0, none⟩) 0 p.dn) 0 []) := by unfold Hid; rw [hy3, hpb]; exact make_own (HG_wa.out.trans GY).le (by omega)
   have G3 := Lib.hid (GY.trans g3)
   rw [← hpb] at hmk
   replace hmk : (Instr.makeSlice 38 (.int .i64 0) (.int .i64 (p.dn : Int))).run Tryz.prog y2 = .ok (.slice (some ⟨pb, 0, none⟩) 0 p.dn) y3 := hmk
   clear hy3 hpb GY
   go_simp
   refine hK _ _ g3 ?_
   clear hK K hmk g2 g3 HA
   refine wpAnyG_end (by kernel_rfl) (fuel' := 5) (by kernel_rfl) (by simp only [pickOps, ugT, ug0, ug1]; rfl) rfl ?_
   intro y4 g4 K hK
   have G4 := Lib.hid (G3.out.trans g4)
   have HO4 := Lib.hid (own_grew HO3.out g4)
   clear HO3 G3 g4
   refine wp_call 35 _ (by go_simp; first | done | rfl) ?_
   have HPL := Lib.hid hpl
   have hne : sb ≠ pb ∧ lb ≠ pb ∧ lb ≠ sb ∧ w3.heap.size ≤ sb ∧ w3.heap.size ≤ pb := by
    have h1 := HS_wa.out.lt
    have h2 := HL_wa.out.lt
    have h3 := HG_wa.out.le
    have h4 := HLE.out
    have h5 := HLS.out
    omega
   have HNE := Lib.hid hne
   clear hpl hne
   refine (improve35 HCK.out OK.out HNE.out p.dn [] 0 (by simp) (fun x hx => by cases hx) ⟨Int.le_refl _, by simp⟩ y4 ⟨fuel, false, [], 0⟩ (HG_wa.out.trans G4.out) ⟨⟨none, 0, 0, HS_wa.out.grew G4.out, fun h => by cases h⟩, HL_wa.out.grew G4.out, ⟨by show 0 ≤ fuel; omega, by show fuel ≤ 1000000; omega⟩, ⟨by show (0 : Int) ≤ 0; decide, by show (0 : Int) ≤ 1000000000000; decide⟩⟩ HO4.out).mono ?_
   rintro r y5 ⟨hg5, j, rfl, hj⟩
   refine ⟨_, rfl, hK _ _ ?_⟩
   clear hK K
   obtain ⟨IM, him⟩ : ∃ q, improve (envP p) p.dn [] 0 ⟨fuel, false, [], 0⟩ = q := ⟨_, rfl⟩
   unfold impF at hj ⊢
   rw [him] at hj ⊢
   have HIM := Lib.hid him
   have HJ := Lib.hid hj
   have HG5 := Lib.hid hg5
   clear him hj hg5 HO4
   obtain ⟨st, tb5⟩ := IM
   cases tb5 with
   | false =>
    have HS : Hid (solF p fuel = ([], 0, [], 201)) := by unfold Hid; rw [HSOL.out]; exact solve_fuel (by rw [show (envP p).nD = p.dn from rfl, HIM.out])
    simp only [Act.put, uzT, uz0, uz1]
    refine wpAny_rest (fun _ _ _ _ _ h => h) [9, 10, 11, 12, 13] (by kernel_rfl) (by kernel_rfl) (by kernel_rfl) rfl ?_
    repeat (first
     | (refine TakeAll.pure (v := ?_) (by rfl) ?_ ?_; rotate_left; (intro w' g'; go_simp; first | done | with_reducible rfl); (simp only [Act.put, List.setIfInBounds_toArray]))
     | (refine TakeAll.skip (by rfl) ?_; (simp only [Act.put, List.setIfInBounds_toArray])))
    refine TakeAll.nil ?_
    go_wp2
    refine bodyPost_ret (res4 rfl _ _ _) rfl ?_
    exact ret_err HS.out rfl (HG3.out.trans HG5.out)
   | true =>
    simp only [Act.put, uzT, uz0, uz1]
    refine wpAny_rest (fun _ _ _ _ _ h => h) [9, 10, 11, 12, 13] (by kernel_rfl) (by kernel_rfl) (by kernel_rfl) rfl ?_
    repeat (first
     | (refine TakeAll.pure (v := ?_) (by rfl) ?_ ?_; rotate_left; (intro w' g'; go_simp; first | done | with_reducible rfl); (simp only [Act.put, List.setIfInBounds_toArray]))
     | (refine TakeAll.skip (by rfl) ?_; (simp only [Act.put, List.setIfInBounds_toArray])))
    refine TakeAll.nil ?_
    have hj2 := HJ.out
    simp only [if_true] at hj2
    rcases hj2 with h | ⟨_, hI, _⟩
    ·cases h
    obtain ⟨⟨BA, bn, bc, hb, hbf⟩, hl, hfu5, _⟩ := hI
    obtain ⟨fu, fd, best, cost⟩ := st
    simp only at hb hbf hl hfu5
    have HB5 := Lib.hid hb
    have HL5 := Lib.hid hl
    have HBF := Lib.hid hbf
    have X5 := Lib.hid (X3.out.grew HG5.out)
    have c14 := hb.cell (i := 14) (v := .bool fd) rfl
    clear HJ hb hbf hl HS_wa HL_wa HG_wa X_wa HPL HNE G4 y4
    cases fd with
    | false =>
     have HS : Hid (solF p fuel = ([], 0, [], 171)) := by unfold Hid; rw [HSOL.out]; exact solve_shift (show improve (envP p) (envP p).nD [] 0 _ = _ from HIM.out) rfl
     go_wp2
     refine bodyPost_ret (res4 rfl _ _ _) rfl ?_
     exact ret_err HS.out rfl (HG3.out.trans HG5.out)
    | true =>
     have c3 : y5.cell? ⟨tb, 3, none⟩ = some (.slice p.D p.dn p.dc) := X5.out.cell rfl
     by_cases hd : p.dn = 0
     ·have HS : Hid (solF p fuel = ([], 0, [], 0)) := by unfold Hid; rw [HSOL.out]; exact solve_none (show improve (envP p) (envP p).nD [] 0 _ = _ from HIM.out) rfl hd
      have q3 : (p.dn == 0) = true := by simpa using hd
      have q4 : ((p.dn : Int) == 0) = true := by simp; omega
      clear hd
      go_wp2
      refine bodyPost_ret (res4 rfl _ _ _) rfl ?_
      exact ret_err HS.out rfl (HG3.out.trans HG5.out)
     ·have hd0 : 0 < p.dn := by omega
      have q3 : (p.dn == 0) = false := by simpa using hd
      have q4 : ((p.dn : Int) == 0) = false := by simp; omega
      have HD := Lib.hid hd
      have hbl := best_len (env_ok HCK.out.1 OK.out) (show improve (envP p) (envP p).nD [] 0 _ = _ from HIM.out) rfl
      have HBL := Lib.hid hbl
      clear hd hbl
      go_wp2_with fail
      clear c14 c3
      refine (some36 (Pr := fun _ => False) OK.out HLE.out.1 HG5.out HB5.out).mono ?_
      rintro r y6 ⟨rfl, GA, gc, hb6, hlg6, hk6, hg6⟩
      obtain ⟨ebn, ob5, _⟩ := HBF.out (by first | exact trivial | rfl)
      subst ebn
      have HB6 := Lib.hid hb6
      have HLG6 := Lib.hid hlg6
      have HG6 := Lib.hid hg6
      have HL6 : Hid (Blk y6 lb 3 (lstF (envP p) p.dn 0)) := hk6.blk HL5.out HLS.out HLS.out (by decide)
      have HO6 : Hid (y6.ownsRow w3.heap.size 3 1 (.slice BA p.dn bc) p.dn (best.map iv)) := own_keepT ob5 hk6 (by decide) (fun q hq => by
       have h1 := own_blk ob5 HB5.out (by decide)
       rw [hq] at h1
       exact ⟨fun e => h1 (by rw [e]), fun e => h1 (by rw [e])⟩)
      clear hlg6 hk6 ob5 HB5 HL5 HBF X5 HG5
      have c13 := hb6.cell (i := 13) (v := (.func (.func 35) #[.pointer (some ⟨sb, 0, none⟩)] #[])) rfl
      have f13 := hb6.frozen 13
      clear hb6 hg6
      obtain ⟨wb, hwb⟩ : ∃ q, q = y6.setCell ⟨sb, 13, none⟩ (.func (.func 37) #[.pointer (some ⟨sb, 0, none⟩)] #[]) := ⟨_, rfl⟩
      go_upto_region 15 with (fail)
      rw [← hwb]
      have k13 := grown_set y6 sb 13 (.func (.func 37) #[.pointer (some ⟨sb, 0, none⟩)] #[])
      rw [← hwb] at k13
      have HS_wb : Hid (Blk wb sb 94 (srC p cb (.slice (some ⟨lb, 0, none⟩) (p.dn + 1) (p.dn + 1)) fu (.func (.func 37) #[.pointer (some ⟨sb, 0, none⟩)] #[]) true (.slice BA p.dn bc) cost (.slice GA p.dn gc))) := by unfold Hid; rw [hwb]; exact HB6.out.set 13 _
      have HL_wb : Hid (Blk wb lb 3 (lstF (envP p) p.dn 0)) := HL6.out.kept k13 (fun e => HLS.out (by injection e))
      have HO_wb : Hid (wb.ownsRow w3.heap.size 3 1 (.slice BA p.dn bc) p.dn (best.map iv)) := by unfold Hid; rw [hwb]; exact own_set HO6.out HB6.out (by decide) _ _
      have HT_wb : Hid (LogAt w3.heap.size (fun _ => False) wb (.slice GA p.dn gc) (someLog (envP p))) := by unfold Hid; rw [hwb]; exact HLG6.out.blk HB6.out (by decide) (by decide) (by decide) 13 _
      have HG_wb : Hid (Grew w3 wb) := HG6.out.grown k13 (fun q hq => by injection hq with hq; have := HLE.out.1; omega)
      have X_wb : Hid (Blk wb tb 32 (planC p)) := X3.out.grew HG_wb.out
      clear k13 c13 f13 HB6 HL6 HG6 HO6 HLG6 hwb
      have hA : ∀ w', Grew wb.drew w' → w'.cell? ⟨sb, 13, none⟩ = some (.func (.func 37) #[.pointer (some ⟨sb, 0, none⟩)] #[]) ∧ w'.cell? ⟨tb, 3, none⟩ = some (.slice p.D p.dn p.dc) := fun w' g' => by
       have gg := (Grew.refl wb).drew.trans g'
       exact ⟨(HS_wb.out.grew gg).cell rfl, (X_wb.out.grew gg).cell rfl⟩
      have HA := Lib.hid hA
      clear hA
      refine wp_region_G (by kernel_rfl) Grew.refl 8 ?_
      refine wpAnyG_takes Grew.refl (fun _ _ _ => Grew.trans) (fun _ _ _ _ _ h => h) [0, 1, 2, 3, 4, 5, 6] (fuel' := 7) (by kernel_rfl) (by kernel_rfl) (by simp only [pickOps, ugT, ug0, ug1]; rfl) ?_
      repeat (first
       | (refine TakeAll.pure (v := ?_) (by rfl) ?_ ?_; rotate_left; (intro w' g'; obtain ⟨q0, q1⟩ := HA.out w' g'; go_simp; first | done | with_reducible rfl); (simp only [Act.put, uzT, uz0, uz1]))
       | (refine TakeAll.skip (by rfl) ?_; (simp only [Act.put, uzT, uz0, uz1])))
      refine TakeAll.nil ?_
      refine wpAnyG_step (i := 7) (by kernel_rfl) (fuel' := 6) (by kernel_rfl) (by simp only [pickOps, ugT, ug0, ug1]; rfl) rfl ?_
      intro y2 g2 K hK
      obtain ⟨y3, hmk, hy3⟩ := make_ints 0 p.dn (by omega) (Nat.zero_le _) y2
      have g3 : Grew y2 y3 := by rw [hy3]; exact (Grew.refl y2).alloc _
      obtain ⟨pb, hpb⟩ : ∃ z, z = y2.heap.size := ⟨_, rfl⟩
      have GY := (Grew.refl wb).drew.trans g2
      have hpl : wb.heap.size ≤ pb := by rw [hpb]; exact GY.le
      have HO3 : Hid (y3.ownsRow w3.heap.size 3 1 (.slice (some ⟨pb, 0, none⟩) 0 p.dn) 0 []) := by unfold Hid; rw [hy3, hpb]; exact make_own (HG_wb.out.trans GY).le (by omega)
      have G3 := Lib.hid (GY.trans g3)
      rw [← hpb] at hmk
      replace hmk : (Instr.makeSlice 38 (.int .i64 0) (.int .i64 (p.dn : Int))).run Tryz.prog y2 = .ok (.slice (some ⟨pb, 0, none⟩) 0 p.dn) y3 := hmk
      clear hy3 hpb GY
      go_simp
      refine hK _ _ g3 ?_
      clear hK K hmk g2 g3 HA
      refine wpAnyG_end (by kernel_rfl) (fuel' := 5) (by kernel_rfl) (by simp only [pickOps, ugT, ug0, ug1]; rfl) rfl ?_
      intro y4 g4 K hK
      have G4 := Lib.hid (G3.out.trans g4)
      have HO4 := Lib.hid (own_grew HO3.out g4)
      clear HO3 G3 g4
      refine wp_call 37 _ (by go_simp; first | done | rfl) ?_
      have HPL := Lib.hid hpl
      have hne : sb ≠ pb ∧ lb ≠ pb ∧ lb ≠ sb ∧ w3.heap.size ≤ sb ∧ w3.heap.size ≤ pb := by
       have h1 := HS_wb.out.lt
       have h2 := HL_wb.out.lt
       have h3 := HG_wb.out.le
       have h4 := HLE.out
       have h5 := HLS.out
       omega
      have HNE := Lib.hid hne
      have hpb4 : pb < y4.heap.size := by
       obtain ⟨cs, fz, h5⟩ := own_t3 HO4.out
       exact (Array.getElem?_eq_some_iff.1 h5).1
      have HPB := Lib.hid hpb4
      have HOB4 := Lib.hid (own_grew HO_wb.out G4.out)
      have HSB4 := Lib.hid (HS_wb.out.grew G4.out)
      clear hpl hne hpb4
      have hrf : RefAt p w3 cb sb lb (.func (.func 37) #[.pointer (some ⟨sb, 0, none⟩)] #[]) (.slice BA p.dn bc) cost (fun b => b ≠ pb) y4 ⟨fu, someLog (envP p)⟩ := by
       refine ⟨⟨GA, gc, ?_, ?_⟩, HL_wb.out.grew G4.out, by show -1 ≤ fu; omega, by show fu ≤ 1000000; omega⟩
       ·show Blk y4 sb 94 (srC p cb (.slice (some ⟨lb, 0, none⟩) (p.dn + 1) (p.dn + 1)) fu (.func (.func 37) #[.pointer (some ⟨sb, 0, none⟩)] #[]) true (.slice BA p.dn bc) cost (.slice GA (someLog (envP p)).length gc))
        rw [someLog_len]; exact HSB4.out
       ·show LogAt _ _ _ (.slice GA (someLog (envP p)).length gc) _
        rw [someLog_len]; exact (HT_wb.out.grew G4.out).imp fun b _ h => h.elim
      refine (refute37 HCK.out OK.out HNE.out hd0 HBL.out.2 p.dn (fun b => b ≠ pb) [] (by simp) (fun x hx => by cases hx) (fun q hq => by simp at hq) (fun b h => h) y4 ⟨fu, someLog (envP p)⟩ (fun b hb => by have := HPB.out; omega) (HG_wb.out.trans G4.out) hrf HO4.out).mono ?_
      clear hrf
      rintro r y7 ⟨hg7, j7, rfl, hj7⟩
      refine ⟨_, rfl, hK _ _ ?_⟩
      clear hK K
      obtain ⟨FN, hFN⟩ : ∃ q, refuteF (envP p) cost p.dn [] (costF (envP p) 0 []) ⟨fu, someLog (envP p)⟩ = q := ⟨_, rfl⟩
      rw [hFN] at hj7 ⊢
      have HFN : Hid (refuteF (envP p) cost (envP p).nD [] 0 ⟨fu, someLog (envP p)⟩ = FN) := hFN
      have HJ7 := Lib.hid hj7
      have HG7 := Lib.hid hg7
      clear hj7 hg7 HO4 hFN
      obtain ⟨rs, o⟩ := FN
      cases o with
      | none =>
       have HS : Hid (solF p fuel = ([], 0, [], 201)) := by unfold Hid; rw [HSOL.out]; exact solve_fuel2 (show improve (envP p) (envP p).nD [] 0 _ = _ from HIM.out) rfl HD.out (by show (refuteF (envP p) cost (envP p).nD [] 0 ⟨fu, someLog (envP p)⟩).2 = none; rw [HFN.out])
       simp only [Act.put, uzT, uz0, uz1]
       refine wpAny_rest (fun _ _ _ _ _ h => h) [9, 10, 11, 12, 13] (by kernel_rfl) (by kernel_rfl) (by kernel_rfl) rfl ?_
       repeat (first
        | (refine TakeAll.pure (v := ?_) (by rfl) ?_ ?_; rotate_left; (intro w' g'; go_simp; first | done | with_reducible rfl); (simp only [Act.put, List.setIfInBounds_toArray]))
        | (refine TakeAll.skip (by rfl) ?_; (simp only [Act.put, List.setIfInBounds_toArray])))
       refine TakeAll.nil ?_
       go_wp2
       refine bodyPost_ret (res4 rfl _ _ _) rfl ?_
       exact ret_err HS.out rfl (HG3.out.trans HG7.out)
      | some jj =>
       have HS : Hid (solF p fuel = (best, cost, rs.log, 0)) := by
        have h1 := solve_all (show improve (envP p) (envP p).nD [] 0 _ = _ from HIM.out) rfl HD.out (j := jj) (by show (refuteF (envP p) cost (envP p).nD [] 0 ⟨fu, someLog (envP p)⟩).2 = some jj; rw [HFN.out])
        have h2 : (refuteF (envP p) cost (envP p).nD [] 0 ⟨fu, someLog (envP p)⟩).1.log = rs.log := by rw [HFN.out]
        unfold Hid; rw [HSOL.out, h1]
        show (best, cost, (refuteF (envP p) cost (envP p).nD [] 0 ⟨fu, someLog (envP p)⟩).1.log, _) = _
        rw [h2]
       simp only [Act.put, uzT, uz0, uz1]
       refine wpAny_rest (fun _ _ _ _ _ h => h) [9, 10, 11, 12, 13] (by kernel_rfl) (by kernel_rfl) (by kernel_rfl) rfl ?_
       repeat (first
        | (refine TakeAll.pure (v := ?_) (by rfl) ?_ ?_; rotate_left; (intro w' g'; go_simp; first | done | with_reducible rfl); (simp only [Act.put, List.setIfInBounds_toArray]))
        | (refine TakeAll.skip (by rfl) ?_; (simp only [Act.put, List.setIfInBounds_toArray])))
       refine TakeAll.nil ?_
       rcases HJ7.out with h | ⟨_, ⟨h7, k7⟩, _⟩
       ·cases h
       obtain ⟨⟨GA7, gc7, hb7, hlg7⟩, _, _⟩ := h7
       have HB7 := Lib.hid hb7
       have HLG7 := Lib.hid hlg7
       have HOB7 : Hid (y7.ownsRow w3.heap.size 3 1 (.slice BA p.dn bc) p.dn (best.map iv)) := own_keepT HOB4.out k7 (by decide) (fun q hq => by
        have h1 := own_blk HOB4.out HSB4.out (by decide)
        rw [hq] at h1
        exact ⟨fun e => h1 (by rw [e]), fun e => by have h2 := (HO_wb.out.lt q hq).2; have := HPL.out; omega⟩)
       clear hb7 hlg7 k7 HJ7 HOB4 HSB4 HS_wb HL_wb HO_wb HT_wb HG_wb X_wb G4
       have hA : ∀ w', Grew y7.drew w' → w'.cell? ⟨sb, 15, none⟩ = some (.slice BA p.dn bc) ∧ w'.cell? ⟨sb, 16, none⟩ = some (.int .i64 cost) ∧ w'.cell? ⟨sb, 17, none⟩ = some (.slice GA7 rs.log.length gc7) := fun w' g' => by
        have hbg := HB7.out.grew ((Grew.refl y7).drew.trans g')
        exact ⟨hbg.cell rfl, hbg.cell rfl, hbg.cell rfl⟩
       have HA := Lib.hid hA
       clear hA
       go_upto_region 18 with (fail)
       refine wp_region_seq (by kernel_rfl) Grew.refl (fun _ _ _ => Grew.trans) (fun _ _ _ _ _ h => h) (by kernel_rfl) ?_
       repeat (first
        | (refine TakeAll.pure (v := ?_) (by rfl) ?_ ?_; rotate_left; (intro w' g'; obtain ⟨q0, q1', q2'⟩ := HA.out w' g'; go_simp; first | done | with_reducible rfl); (simp only [Act.put, uzT, uz0, uz1]))
        | (refine TakeAll.skip (by rfl) ?_; (simp only [Act.put, uzT, uz0, uz1])))
       refine TakeAll.nil ?_
       intro w9 g9
       have G9 := Lib.hid ((Grew.refl y7).drew.trans g9)
       clear HA g9
       go_wp2
       refine bodyPost_ret (res4 rfl _ _ _) rfl ?_
       exact ret_ok HS.out rfl HBL.out.1 rfl (own_base (own_grew HOB7.out G9.out) HG3.out.le) (LogAt.base (HLG7.out.grew G9.out) HG3.out.le) (HG3.out.trans (HG7.out.trans G9.out))
  ·have HS : Hid (solF p fuel = ([], 0, [], 1)) := if_neg (fun h => hfu h.2)
   have v0 : w3.cell? ⟨tb, 0, none⟩ = some (.string p.nm) := X3.out.cell rfl
   have v1 : w3.cell? ⟨tb, 1, none⟩ = some (.int .i64 p.zb) := X3.out.cell rfl
   have v2 : w3.cell? ⟨tb, 2, none⟩ = some (.slice p.C p.cn p.cc) := X3.out.cell rfl
   have v3 : w3.cell? ⟨tb, 3, none⟩ = some (.slice p.D p.dn p.dc) := X3.out.cell rfl
   have v4 : w3.cell? ⟨tb, 4, none⟩ = some (.slice p.W p.wn p.wc) := X3.out.cell rfl
   have v5 : w3.cell? ⟨tb, 5, none⟩ = some (.int .i64 p.lm.rest) := X3.out.cell rfl
   have v6 : w3.cell? ⟨tb, 6, none⟩ = some (.int .i64 p.lm.week) := X3.out.cell rfl
   have v7 : w3.cell? ⟨tb, 7, none⟩ = some (.int .i64 p.lm.nf) := X3.out.cell rfl
   have v8 : w3.cell? ⟨tb, 8, none⟩ = some (.int .i64 p.lm.nt) := X3.out.cell rfl
   have v9 : w3.cell? ⟨tb, 9, none⟩ = some (.int .i64 p.lm.mn) := X3.out.cell rfl
   have hx : fuel < 0 ∨ (¬ (fuel < 0) ∧ (100000 : Int) < fuel) := by omega
   clear hfu
   rcases hx with q1 | ⟨q1, q2⟩
   ·go_wp2
    refine bodyPost_ret (res4 rfl _ _ _) rfl ?_
    exact ret_err HS.out rfl HG3.out
   ·go_wp2
    refine bodyPost_ret (res4 rfl _ _ _) rfl ?_
    exact ret_err HS.out rfl HG3.out
 ·have HS : Hid (solF p fuel = ([], 0, [], 1)) := if_neg (fun h => by rw [hok] at h; cases h.1)
  have HG3 := Lib.hid (HG1.out.trans g3)
  clear hok g3
  go_wp2
  refine bodyPost_ret (res4 rfl _ _ _) rfl ?_
  exact ret_err HS.out rfl HG3.out
end Go.Proofs.YtnnbibmmofnkdaaGreat
