/-
 Refutations: follows.
-/
import Derived.Test.YtnnbibmmofnkdaaGreatRefK
import Derived.Test.YtnnbibmmofnkdaaGreatRefL
import Derived.WalkKit
import Derived.Defers
import Derived.Recover
namespace Go.Proofs.YtnnbibmmofnkdaaGreat
open Go.RowKit Go.Proofs WageMem WageReg WageRec WageSpan WageTop
theorem catch_idle90 (q : Addr) (w : World) :
  CallsD Tryz.prog 90 #[.pointer (some q)] .returning w fun e u' w' => e = .returned (.tuple #[]) ∧ u' = .returning ∧ w' = w := by
 refine callsD_of_wpS Tryz.func90 rfl fun c₀ cs hu => ?_
 apply wpS_seq
 apply wpS_region
 simp [wpOpsS, go_sem, recoverD, hu, Tryz.ntmps90, Exit.thenS]
 apply wpS_seq
 apply wpS_region
 simp [wpOpsS, go_sem, Exit.thenS]
 refine wpS_cond (t := false) (by simp [Act.eval, Array.replicate]) ?_
 simp only [Bool.false_eq_true, if_false]
 refine wpS_of_wp (wp_skip ?_)
 cases c₀
 simp_all [bodyPostS, results, Tryz.results90]
section
variable {P : Program} {Q : Exit → Act → List Frame → World → Prop} {a : Act} {cs : List Frame} {w w' : World} {ops : Array Oper}
theorem opsS_val {i : Nat} {rest : List Nat} {o : Oper} {v : Value} (ho : ops[i]? = some o) (hw : Region.wanted o (yielded ops a.tmps) = true) (hr : (execOp a.eval o).run P w = .ok (.value v) w')
  (h : wpOpsS P ops Q rest (a.put o.dst v) cs w') : wpOpsS P ops Q (i :: rest) a cs w := by
 simp only [wpOpsS, ho, hw, if_true, hr, Oper.upon]; exact h
theorem opsS_skip {i : Nat} {rest : List Nat} {o : Oper} (ho : ops[i]? = some o) (hw : Region.wanted o (yielded ops a.tmps) = true) (hr : (execOp a.eval o).run P w = .ok .skip w')
  (h : wpOpsS P ops Q rest (a.put o.dst undef) cs w') : wpOpsS P ops Q (i :: rest) a cs w := by
 simp only [wpOpsS, ho, hw, if_true, hr, Oper.upon]; exact h
end
set_option maxRecDepth 100000 in
set_option maxHeartbeats 400000 in
theorem catch_fail90 (rb : Nat) (b0 : Bool) (w : World) (hb : Blk w rb 4 [.bool b0]) :
  CallsD Tryz.prog 90 #[.pointer (some ⟨rb, 0, none⟩)] (.panicking failC) w fun e u' w' => e = .returned (.tuple #[]) ∧ u' = .panicking [{ v := .iface 188 (.agg #[]), recovered := true }] ∧ w' = (w.alloc (.cells #[] 188)).setCell ⟨rb, 0, none⟩ (.bool false) := by
 have hc : (w.alloc (.cells #[] 188)).cell? ⟨rb, 0, none⟩ = some (.bool b0) := ((Grew.refl w).alloc _).cell (hb.cell rfl)
 have hf : (w.alloc (.cells #[] 188)).frozen? ⟨rb, 0, none⟩ = false := Blk.frozen (hb.grew ((Grew.refl w).alloc _)) 0
 refine callsD_of_wpS Tryz.func90 rfl fun c₀ cs hu => ?_
 unfold failC at hu
 apply wpS_seq
 apply wpS_region
 simp [wpOpsS, go_sem, recoverD, hu, Tryz.ntmps90, Exit.thenS]
 apply wpS_seq
 apply wpS_region
 simp [wpOpsS, go_sem, Exit.thenS]
 refine wpS_cond (t := true) (by simp [Act.eval, Array.replicate]) ?_
 simp only [if_true]
 apply wpS_seq
 apply wpS_seq
 apply wpS_region
 simp only [List.size_toArray, List.length_cons, List.length_nil, Nat.zero_add, Nat.reduceAdd, List.range, List.range.loop]
 with_reducible refine opsS_val (P := Tryz.prog) (v := .iface 188 (.agg #[])) (w' := w) rfl rfl ?_ ?_
 ·go_simp
 with_reducible refine opsS_val (P := Tryz.prog) (v := .tuple #[.agg #[], .bool true]) (w' := w) rfl rfl ?_ ?_
 ·go_simp; kernel_rfl
 with_reducible refine opsS_val (P := Tryz.prog) (v := .tuple #[.agg #[], .bool true]) (w' := w) rfl rfl ?_ ?_
 ·go_simp
 with_reducible refine opsS_val (P := Tryz.prog) (v := .agg #[]) (w' := w) rfl rfl ?_ ?_
 ·go_simp
 with_reducible refine opsS_val (P := Tryz.prog) (v := .bool true) (w' := w) rfl rfl ?_ ?_
 ·go_simp
 with_reducible refine opsS_val (P := Tryz.prog) (v := .pointer (some ⟨w.heap.size, 0, none⟩)) (w' := (w.alloc (.cells #[] 188))) rfl rfl ?_ ?_
 ·go_simp
 with_reducible refine opsS_skip (P := Tryz.prog)  (w' := (w.alloc (.cells #[] 188))) rfl rfl ?_ ?_
 ·go_simp
 with_reducible refine opsS_val (P := Tryz.prog) (v := .bool true) (w' := (w.alloc (.cells #[] 188))) rfl rfl ?_ ?_
 ·go_simp
 simp only [wpOpsS, Exit.thenS, Act.put]
 apply wpS_seq
 apply wpS_region
 simp only [List.size_toArray, List.length_cons, List.length_nil, Nat.zero_add, Nat.reduceAdd, List.range, List.range.loop]
 with_reducible refine opsS_val (P := Tryz.prog) (v := .bool true) (w' := w.alloc (.cells #[] 188)) rfl rfl ?_ ?_
 ·go_simp
 with_reducible refine opsS_val (P := Tryz.prog) (v := .bool false) (w' := w.alloc (.cells #[] 188)) rfl rfl ?_ ?_
 ·go_simp
 simp only [wpOpsS, Exit.thenS, Act.put]
 refine wpS_cond (t := false) (by simp [Act.eval]) ?_
 simp only [Bool.false_eq_true, if_false]
 refine wpS_of_wp (wp_skip ?_)
 simp only [Exit.thenS]
 apply wpS_region
 simp only [List.size_toArray, List.length_cons, List.length_nil, Nat.zero_add, List.range, List.range.loop]
 with_reducible refine opsS_skip (P := Tryz.prog) (w' := (w.alloc (.cells #[] 188)).setCell ⟨rb, 0, none⟩ (.bool false)) rfl rfl ?_ ?_
 ·go_simp
 simp [wpOpsS, bodyPostS, results, Tryz.results90]
 rfl
theorem invoke90 (rb : Nat) (w : World) : (invoke (.fn (.func 90) #[.pointer (some ⟨rb, 0, none⟩)]) #[]).run Tryz.prog w = .ok (.enter 90 #[.pointer (some ⟨rb, 0, none⟩)]) w := by simp [go_sem]
theorem results_one {fn : Func} {tmps : Array Value} {rb : Nat} {w : World} {b0 : Bool} (hfn : fn.results = #[.cell 4 4]) (hp : tmps.getD 4 undef = .pointer (some ⟨rb, 0, none⟩)) (c0 : w.cell? ⟨rb, 0, none⟩ = some (.bool b0)) : (results fn tmps).run Tryz.prog w = .ok (.bool b0) w := by
 rw [Array.getD_eq_getD_getElem?] at hp
 simp [results, hfn, go_sem, hp, c0]
theorem leaves_fine {R : Ending → World → Prop} {fn : Func} {tmps : Array Value} {rb : Nat} {w : World} {b0 : Bool} (hfn : fn.results = #[.cell 4 4]) (hp : tmps.getD 4 undef = .pointer (some ⟨rb, 0, none⟩)) (hb : Blk w rb 4 [.bool b0]) (hR : R (.returned (.bool b0)) w) :
  Leaves Tryz.prog fn tmps R [{ target := .fn (.func 90) #[.pointer (some ⟨rb, 0, none⟩)], args := #[] }] .returning w := by
 refine leaves_cons (by simp) (invoke90 rb w) ?_
 refine (catch_idle90 ⟨rb, 0, none⟩ w).mono ?_
 rintro e u' w' ⟨rfl, rfl, rfl⟩
 have c0 : w'.cell? ⟨rb, 0, none⟩ = some (.bool b0) := hb.cell rfl
 refine ⟨.bool b0, ?_, hR⟩
 exact results_one hfn hp c0
theorem leaves_fail {R : Ending → World → Prop} {fn : Func} {tmps : Array Value} {rb : Nat} {w : World} {b0 : Bool} (hfn : fn.results = #[.cell 4 4]) (hp : tmps.getD 4 undef = .pointer (some ⟨rb, 0, none⟩)) (hb : Blk w rb 4 [.bool b0]) (hR : R (.returned (.bool false)) ((w.alloc (.cells #[] 188)).setCell ⟨rb, 0, none⟩ (.bool false))) :
  Leaves Tryz.prog fn tmps R [{ target := .fn (.func 90) #[.pointer (some ⟨rb, 0, none⟩)], args := #[] }] (.panicking failC) w := by
 refine leaves_cons (by simp) (invoke90 rb w) ?_
 refine (catch_fail90 rb b0 w hb).mono ?_
 rintro e u' w' ⟨rfl, rfl, rfl⟩
 have hb2 : Blk ((w.alloc (.cells #[] 188)).setCell ⟨rb, 0, none⟩ (.bool false)) rb 4 [.bool false] := (hb.grew ((Grew.refl w).alloc _)).set 0 _
 have c0 := hb2.cell (i := 0) rfl
 exact ⟨.bool false, results_one hfn hp c0, hR⟩
open WageMap
def fnV (n : Nat) : Value := .func (.func n) #[] #[]
theorem map192 : Tryz.prog.underlying 192 = some (.map 3 190) := by kernel_rfl
theorem zero190 (w : World) : (zeroValue 190).run Tryz.prog w = .ok .nilFunc w := by kernel_rfl
def ruleM : List (Int × Nat) := [(1, 91), (2, 92), (3, 93), (4, 94), (5, 95)]
/-- A step of a log follows. -/
def folB (p : Pl) (bound : Int) (log : List Stp) (k : Nat) : Bool := match log[k]? with
 | some s => followsB (envP p) bound log k s
 | none => true
theorem folB_at {p : Pl} {bound : Int} {log : List Stp} {k : Nat} {s : Stp} (h : log[k]? = some s) : folB p bound log k = followsB (envP p) bound log k s := by unfold folB; rw [h]
theorem blk_end {w : World} {cb rb : Nat} {t : TypeId} {cs : List Value} (h : Blk w cb t cs) (hne : cb ≠ rb) : Blk ((w.alloc (.cells #[] 188)).setCell ⟨rb, 0, none⟩ (.bool false)) cb t cs :=
 (h.grew ((Grew.refl w).alloc _)).other (fun e => hne e) _
theorem grew_end {w0 w : World} {rb : Nat} (h : Grew w0 w) (hl : w0.heap.size ≤ rb) : Grew w0 ((w.alloc (.cells #[] 188)).setCell ⟨rb, 0, none⟩ (.bool false)) :=
 (h.alloc _).grown (grown_set _ _ _ _) (fun q hq => by injection hq with hq; omega)
set_option maxRecDepth 100000 in
set_option maxHeartbeats 16000000 in
theorem follows41 {w0 w : World} {cb : Nat} {p : Pl} {M N : Pc} {ps : List Pc} {bound : Int} {LA : Option Addr} {ln lc : Nat} {log : List Stp} {k0 : Int} {kk : Nat} (hf : FactAt w0 p M N ps) (ok : planB p = true) (hl : LgRd w0 LA ln lc log) (g0 : Grew w0 w) (hcb : w0.heap.size ≤ cb) (hb : Blk w cb 104 (chC p M N bound LA ln lc k0)) (hk : kk < ln) (hsz : ∀ s ∈ log, s.cl.length ≤ 1000) :
  Calls Tryz.prog 41 #[.pointer (some ⟨cb, 0, none⟩), .int .i64 (kk : Int)] w fun e w' => e = .returned (.bool (folB p bound log kk)) ∧ Blk w' cb 104 (chC p M N bound LA ln lc kk) ∧ Grew w0 w' := by
 obtain ⟨bl, ol, q, s, hLA, hs, hrd, c0, c1, c2⟩ := hl.at_ hk
 have hlen := hl.le
 obtain ⟨t, ht⟩ : ∃ t, folB p bound log kk = t := ⟨_, rfl⟩
 rw [ht]
 rw [folB_at hs] at ht
 obtain ⟨⟨CA, cn, cc⟩, ru, ⟨FA, fn, fc⟩⟩ := q
 obtain ⟨cl, rule, frm⟩ := s
 obtain rfl : ru = rule := hrd.ru
 have HRD := Lib.hid hrd
 have HLR := Lib.hid hl
 have HF := Lib.hid hf
 have HSZ := Lib.hid hsz
 have HLN : Hid (cl.length = cn) := hrd.cl.1
 have cn9 : cn ≤ 9223372036854775807 := hrd.cl.le
 have HT : Hid ((cl.all (proper (envP p)) && (if ru = 1 then someB (envP p) ⟨cl, ru, frm⟩ else if ru = 2 then oneB ⟨cl, ru, frm⟩ else if ru = 3 then badB (envP p) ⟨cl, ru, frm⟩ else if ru = 4 then costB (envP p) bound ⟨cl, ru, frm⟩ else if ru = 5 then unitB log kk ⟨cl, ru, frm⟩ else false)) = t) := ht
 have HC0 : Hid (∀ y, Grew w0 y → y.cell? ⟨bl, ol + kk * 3, none⟩ = some (.slice CA cn cc) ∧ y.cell? ⟨bl, ol + kk * 3 + 1, none⟩ = some (.int .i64 ru) ∧ y.cell? ⟨bl, ol + kk * 3 + 2, none⟩ = some (.slice FA fn fc)) := fun y g => ⟨g.cell c0, g.cell c1, g.cell c2⟩
 clear c0 c1 c2 ht hf hsz hrd hl
 have hmf : ∀ (fn : Fn) (first cap : Array Value) (w : World), (Instr.makeFunc fn first cap).run Tryz.prog w = .ok (.func fn first cap) w := fun _ _ _ _ => rfl
 have hmm := @run_makeMap Tryz.prog
 obtain ⟨w1, hw1⟩ : ∃ y, y = w.alloc (.cells #[.bool false] 4) := ⟨_, rfl⟩
 obtain ⟨rb, hrb⟩ : ∃ z, z = w.heap.size := ⟨_, rfl⟩
 have g1 : Grew w w1 := by rw [hw1]; exact (Grew.refl w).alloc _
 have HR1 : Blk w1 rb 4 [.bool false] := by rw [hw1, hrb]; exact Blk.new w 4 [.bool false]
 have hsz1 : w1.heap.size = rb + 1 := by rw [hw1, hrb]; simp
 have HSZ1 := Lib.hid hsz1
 have g2 : Grew w1 (w1.alloc (.map #[] 0)) := (Grew.refl w1).alloc _
 have HM2 : MapIs zk fnV (w1.alloc (.map #[] 0)) w1.heap.size ([] : List (Int × Nat)) := MapIs.made w1
 obtain ⟨v1, up1, M1, e1⟩ := HM2.update key3 map192 1 91
 obtain ⟨v2, up2, M2, e2⟩ := M1.update key3 map192 2 92
 obtain ⟨v3, up3, M3, e3⟩ := M2.update key3 map192 3 93
 obtain ⟨v4, up4, M4, e4⟩ := M3.update key3 map192 4 94
 obtain ⟨v5, up5, M5, e5⟩ := M4.update key3 map192 5 95
 have HMR : Hid (MapIs zk fnV v5 w1.heap.size ruleM) := M5
 have hmg : ∀ {x y : World}, Grew w1 x → x.grownBy y (some w1.heap.size) → Grew w1 y := fun gx gy => gx.grown gy (fun q hq => by injection hq with hq; omega)
 have G5 : Hid (Grew w1 v5) := hmg (hmg (hmg (hmg (hmg g2 e1) e2) e3) e4) e5
 replace up1 : (Instr.mapUpdate 192 (.map (some w1.heap.size)) (.int .i64 1) (.func (.func 91) #[] #[])).run Tryz.prog (w1.alloc (.map #[] 0)) = .ok () v1 := up1
 replace up2 : (Instr.mapUpdate 192 (.map (some w1.heap.size)) (.int .i64 2) (.func (.func 92) #[] #[])).run Tryz.prog v1 = .ok () v2 := up2
 replace up3 : (Instr.mapUpdate 192 (.map (some w1.heap.size)) (.int .i64 3) (.func (.func 93) #[] #[])).run Tryz.prog v2 = .ok () v3 := up3
 replace up4 : (Instr.mapUpdate 192 (.map (some w1.heap.size)) (.int .i64 4) (.func (.func 94) #[] #[])).run Tryz.prog v3 = .ok () v4 := up4
 replace up5 : (Instr.mapUpdate 192 (.map (some w1.heap.size)) (.int .i64 5) (.func (.func 95) #[] #[])).run Tryz.prog v4 = .ok () v5 := up5
 have HRBL : Hid (w0.heap.size ≤ rb) := by unfold Hid; rw [hrb]; exact g0.le
 have HCR : Hid (cb ≠ rb) := by unfold Hid; rw [hrb]; exact Nat.ne_of_lt hb.lt
 have HXX : Hid (cb ≠ w1.heap.size) := by unfold Hid; rw [hsz1, hrb]; have := hb.lt; omega
 have HG5 := Lib.hid (g0.trans (g1.trans G5.out))
 have HRB5 := Lib.hid (HR1.grew G5.out)
 have HCB5 := Lib.hid (hb.grew (g1.trans G5.out))
 clear M1 M2 M3 M4 M5 e1 e2 e3 e4 e5 HM2 hmg G5 g1 g2 HR1 hb hsz1
 go_enter_defers Tryz.func41, Tryz.ntmps41
 go_upto_region 1 with (fail)
 rw [← hw1, ← hrb]
 clear hw1 hrb
 go_upto_region 2 with (fail)
 go_upto_region 3 with (fail)
 clear hmf hmm up1 up2 up3 up4 up5
 obtain ⟨mb, hmb⟩ : ∃ z, z = w1.heap.size := ⟨_, rfl⟩
 rw [← hmb] at HMR HXX ⊢
 clear hmb
 -- the step's number
 have f15 : v5.cell? ⟨cb, 15, none⟩ = some (.int .i64 k0) := HCB5.out.cell rfl
 have z15 := HCB5.out.frozen 15
 obtain ⟨w6, hw6⟩ : ∃ y, y = v5.setCell ⟨cb, 15, none⟩ (.int .i64 (kk : Int)) := ⟨_, rfl⟩
 have HCB6 : Hid (Blk w6 cb 104 (chC p M N bound LA ln lc kk)) := by unfold Hid; rw [hw6]; exact HCB5.out.set 15 _
 have gs : v5.grownBy w6 (some cb) := by rw [hw6]; exact grown_set _ _ _ _
 have HG6 := Lib.hid (HG5.out.grown gs (fun q hq => by injection hq with hq; omega))
 have HRB6 := Lib.hid (HRB5.out.kept gs (fun e => HCR.out (by injection e with e; exact e.symm)))
 have HMP6 := Lib.hid (HMR.out.kept gs (fun e => HXX.out (by injection e with e; exact e.symm)))
 clear gs HG5 HRB5 HCB5 HMR
 go_upto_region 4 with (fail)
 rw [← hw6]
 clear hw6 f15 z15
 subst hLA
 have c14 : w6.cell? ⟨cb, 14, none⟩ = some (.slice (some ⟨bl, ol, none⟩) ln lc) := HCB6.out.cell rfl
 obtain ⟨c0, c1, c2⟩ := HC0.out _ HG6.out
 have e1 : (0 : Int) ≤ (kk : Int) := by omega
 have e2 : (kk : Int) < (ln : Int) := by omega
 obtain ⟨w7, hw7⟩ : ∃ y, y = w6.alloc (.cells #[.slice CA cn cc, .int .i64 ru, .slice FA fn fc] 71) := ⟨_, rfl⟩
 obtain ⟨sb, hsb⟩ : ∃ z, z = w6.heap.size := ⟨_, rfl⟩
 have g7 : Grew w6 w7 := by rw [hw7]; exact (Grew.refl w6).alloc _
 have HSB : Hid (Blk w7 sb 71 [.slice CA cn cc, .int .i64 ru, .slice FA fn fc]) := by unfold Hid; rw [hw7, hsb]; exact Blk.new w6 71 [.slice CA cn cc, .int .i64 ru, .slice FA fn fc]
 go_upto_region 5 with (fail)
 rw [← hw7, ← hsb]
 clear hw7 hsb c14 c0 c1 c2 e1 e2
 have HG0 := Lib.hid (HG6.out.trans g7)
 have HRB := Lib.hid (HRB6.out.grew g7)
 have HCB := Lib.hid (HCB6.out.grew g7)
 have HMP := Lib.hid (HMP6.out.grew g7)
 have HNE := HCR
 have HCRT : Hid (CrAt w7 cb p M N ps bound (some ⟨bl, ol, none⟩) ln lc log (kk : Int)) := ⟨HCB.out, HF.out.grew HG0.out, ok, HLR.out.grew HG0.out⟩
 have HST := Lib.hid (HRD.out.grew HG0.out)
 have HCL : Hid (Recs encL 3 w7 CA cn cc cl) := HST.out.cl
 clear g7 HG6 HRB6 HCB6 HMP6
 obtain ⟨R, hR⟩ : ∃ R, (if ru = 1 then someB (envP p) ⟨cl, ru, frm⟩ else if ru = 2 then oneB ⟨cl, ru, frm⟩ else if ru = 3 then badB (envP p) ⟨cl, ru, frm⟩ else if ru = 4 then costB (envP p) bound ⟨cl, ru, frm⟩ else if ru = 5 then unitB log kk ⟨cl, ru, frm⟩ else false) = R := ⟨_, rfl⟩
 rw [hR] at HT
 have HRR := Lib.hid hR
 have HT0 : Hid (((cl.drop 0).all (proper (envP p)) && R) = t) := HT
 clear hR HT
 have s0 : w7.cell? ⟨sb, 0, none⟩ = some (.slice CA cn cc) := HSB.out.cell rfl
 go_wp2_with fail
 clear s0
 go_loopw [28] (fun i y => ∃ k : Nat, k ≤ cn ∧ i = .int .i64 k ∧ Hid (((cl.drop k).all (proper (envP p)) && R) = t) ∧ Hid ((cl.take k).all (proper (envP p)) = true) ∧ Hid (Grew w7 y)) (fun i _ => cn - (intOf i).toNat)
 case atStart => exact ⟨0, Nat.zero_le _, rfl, HT0.out, rfl, Grew.refl _⟩
 case round =>
  clear HT0
  have hk0 := hk
  obtain ⟨k, hk, rfl, HZ, HP, HR⟩ := hrel
  by_cases hlt : k < cn
  ·obtain ⟨b, o, l, hA, hl, d0, d1, d2⟩ := Recs.lit (HCL.out.grew HR.out) hlt
   have HZ2 : Hid ((proper (envP p) l && ((cl.drop (k + 1)).all (proper (envP p)) && R)) = t) := by unfold Hid; rw [← HZ.out, drop_at' hl, List.all_cons, Bool.and_assoc]
   have HTK : Hid (cl.take (k + 1) = cl.take k ++ [l]) := by unfold Hid; rw [List.take_add_one, hl]; rfl
   obtain ⟨pb, hpb⟩ : ∃ z, proper (envP p) l = z := ⟨_, rfl⟩
   have HPB := Lib.hid hpb
   rw [hpb] at HZ2
   obtain ⟨ld, lw, lis⟩ := l
   simp only at d0 d1 d2
   have e1 : (0 : Int) ≤ (k : Int) := by omega
   have e2 : (k : Int) < (cn : Int) := by omega
   subst hA
   clear hl hpb HZ
   obtain ⟨wa, hwa⟩ : ∃ y, y = wr.alloc (.cells #[.int .i64 ld, .int .i64 lw, .bool lis] 122) := ⟨_, rfl⟩
   obtain ⟨ba, hba⟩ : ∃ z, z = wr.heap.size := ⟨_, rfl⟩
   have HBA : Hid (Blk wa ba 122 [.int .i64 ld, .int .i64 lw, .bool lis]) := by unfold Hid; rw [hwa, hba]; exact Blk.new wr 122 [.int .i64 ld, .int .i64 lw, .bool lis]
   have ga : Grew wr wa := by rw [hwa]; exact (Grew.refl wr).alloc _
   go_upto_region 8 with (fail)
   rw [← hwa, ← hba]
   have HRa := Lib.hid (HR.out.trans ga)
   clear hwa hba d0 d1 d2 ga HR
   have u0 : wa.cell? ⟨ba, 0, none⟩ = some (.int .i64 ld) := HBA.out.cell rfl
   have u1 : wa.cell? ⟨ba, 1, none⟩ = some (.int .i64 lw) := HBA.out.cell rfl
   have u2 : wa.cell? ⟨ba, 2, none⟩ = some (.bool lis) := HBA.out.cell rfl
   go_wp2_with fail
   refine (proper97 (HCRT.out.grew HRa.out).rp ⟨ld, lw, lis⟩).mono ?_
   rintro r w4 ⟨rfl, g4⟩
   have HR4 := Lib.hid (HRa.out.trans g4)
   rw [HPB.out]
   clear u0 u1 u2 g4 HRa
   go_wp2_with fail
   refine (require96 pb _).mono ?_
   rintro r w5 ⟨hj, rfl⟩
   cases pb with
   | false =>
    obtain rfl : r = .panicked failC := hj
    have HN : Hid (t = false) := by have := HZ2.out; rw [Bool.false_and] at this; exact this.symm
    refine leaves_fail rfl rfl (HRB.out.grew HR4.out) ?_
    have gz := HR4.out
    exact ⟨by rw [HN.out], blk_end (HCB.out.grew gz) HNE.out, grew_end (HG0.out.trans gz) HRBL.out⟩
   | true =>
    obtain rfl : r = .returned (.tuple #[]) := hj
    have HZ3 : Hid (((cl.drop (k + 1)).all (proper (envP p)) && R) = t) := by have := HZ2.out; rw [Bool.true_and] at this; exact this
    have HP2 : Hid ((cl.take (k + 1)).all (proper (envP p)) = true) := by unfold Hid; rw [HTK.out, List.all_append, HP.out, Bool.true_and, List.all_cons, HPB.out]; rfl
    clear HZ2 HP
    go_wp2_with fail
    go_roundw
    case rel => exact ⟨k + 1, by omega, by go_num, HZ3, HP2, HR4⟩
    case measure => simp [intOf]; omega
  ·obtain rfl : cn = k := by omega
   have HALL : Hid (cl.all (proper (envP p)) = true) := by have h1 := HP.out; rw [← HLN.out, List.take_length] at h1; exact h1
   have HRT : Hid (R = t) := by have h1 := HZ.out; rw [← HLN.out, List.drop_length] at h1; exact h1
   clear HZ HP
   obtain ⟨w9, rfl⟩ : ∃ y : World, y = wr := ⟨_, rfl⟩
   have u1 : w9.cell? ⟨sb, 1, none⟩ = some (.int .i64 ru) := (HSB.out.grew HR.out).cell rfl
   by_cases h1 : ru = 1
   ·subst h1
    have HRU : Hid (someB (envP p) ⟨cl, 1, frm⟩ = t) := by unfold Hid; rw [← HRT.out, ← HRR.out]; rfl
    clear HRR HRT 
    have hlk : (Instr.lookup 192 (.map (some mb)) (.int .i64 1) true).run Tryz.prog w9 = .ok (.tuple #[.func (.func 91) #[] #[], .bool true]) w9 := (HMP.out.grew HR.out).lookup key3 map192 (zero190 _) 1 true
    go_upto_region 11 with (fail)
    clear hlk
    go_wp2_with fail
    refine (require96 _ _).mono ?_
    rintro r w4 ⟨hj, rfl⟩
    obtain rfl : r = .returned (.tuple #[]) := hj
    clear u1
    have u0 : w4.cell? ⟨sb, 0, none⟩ = some (.slice CA cn cc) := (HSB.out.grew HR.out).cell rfl
    have u1 : w4.cell? ⟨sb, 1, none⟩ = some (.int .i64 1) := (HSB.out.grew HR.out).cell rfl
    have u2 : w4.cell? ⟨sb, 2, none⟩ = some (.slice FA fn fc) := (HSB.out.grew HR.out).cell rfl
    go_wp2_with fail
    refine (some91 (HCRT.out.grew HR.out).rp (HST.out.grew HR.out)).mono ?_
    rintro r w6 ⟨hj, g6⟩
    have HR6 := Lib.hid (HR.out.trans g6)
    clear u0 u1 u2 g6
    rw [HRU.out] at hj
    cases t with
    | false =>
     obtain rfl : r = .panicked failC := hj
     have HN : Hid (false = false) := rfl
     refine leaves_fail rfl rfl (HRB.out.grew HR6.out) ?_
     have gz := HR6.out
     exact ⟨rfl, blk_end (HCB.out.grew gz) HNE.out, grew_end (HG0.out.trans gz) HRBL.out⟩
    | true =>
     obtain rfl : r = .returned (.tuple #[]) := hj
     have cr : w6.cell? ⟨rb, 0, none⟩ = some (.bool false) := (HRB.out.grew HR6.out).cell rfl
     have fr := (HRB.out.grew HR6.out).frozen 0
     go_wp2
     refine leaves_fine rfl rfl ((HRB.out.grew HR6.out).set 0 (.bool true)) ?_
     exact ⟨rfl, (HCB.out.grew HR6.out).other (fun e => HNE.out e) _, (HG0.out.trans HR6.out).grown (grown_set _ _ _ _) (fun q hq => by injection hq with hq; have := HRBL.out; omega)⟩
   ·skip
    by_cases h2 : ru = 2
    ·subst h2
     have HRU : Hid (oneB ⟨cl, 2, frm⟩ = t) := by unfold Hid; rw [← HRT.out, ← HRR.out]; rfl
     clear HRR HRT h1
     have hlk : (Instr.lookup 192 (.map (some mb)) (.int .i64 2) true).run Tryz.prog w9 = .ok (.tuple #[.func (.func 92) #[] #[], .bool true]) w9 := (HMP.out.grew HR.out).lookup key3 map192 (zero190 _) 2 true
     go_upto_region 11 with (fail)
     clear hlk
     go_wp2_with fail
     refine (require96 _ _).mono ?_
     rintro r w4 ⟨hj, rfl⟩
     obtain rfl : r = .returned (.tuple #[]) := hj
     clear u1
     have u0 : w4.cell? ⟨sb, 0, none⟩ = some (.slice CA cn cc) := (HSB.out.grew HR.out).cell rfl
     have u1 : w4.cell? ⟨sb, 1, none⟩ = some (.int .i64 2) := (HSB.out.grew HR.out).cell rfl
     have u2 : w4.cell? ⟨sb, 2, none⟩ = some (.slice FA fn fc) := (HSB.out.grew HR.out).cell rfl
     go_wp2_with fail
     refine (one92 (HST.out.grew HR.out)).mono ?_
     rintro r w6 ⟨hj, g6⟩
     have HR6 := Lib.hid (HR.out.trans g6)
     clear u0 u1 u2 g6
     rw [HRU.out] at hj
     cases t with
     | false =>
      obtain rfl : r = .panicked failC := hj
      have HN : Hid (false = false) := rfl
      refine leaves_fail rfl rfl (HRB.out.grew HR6.out) ?_
      have gz := HR6.out
      exact ⟨rfl, blk_end (HCB.out.grew gz) HNE.out, grew_end (HG0.out.trans gz) HRBL.out⟩
     | true =>
      obtain rfl : r = .returned (.tuple #[]) := hj
      have cr : w6.cell? ⟨rb, 0, none⟩ = some (.bool false) := (HRB.out.grew HR6.out).cell rfl
      have fr := (HRB.out.grew HR6.out).frozen 0
      go_wp2
      refine leaves_fine rfl rfl ((HRB.out.grew HR6.out).set 0 (.bool true)) ?_
      exact ⟨rfl, (HCB.out.grew HR6.out).other (fun e => HNE.out e) _, (HG0.out.trans HR6.out).grown (grown_set _ _ _ _) (fun q hq => by injection hq with hq; have := HRBL.out; omega)⟩
    ·skip
     by_cases h3 : ru = 3
     ·subst h3
      have HRU : Hid (badB (envP p) ⟨cl, 3, frm⟩ = t) := by unfold Hid; rw [← HRT.out, ← HRR.out]; rfl
      clear HRR HRT h1 h2
      have hlk : (Instr.lookup 192 (.map (some mb)) (.int .i64 3) true).run Tryz.prog w9 = .ok (.tuple #[.func (.func 93) #[] #[], .bool true]) w9 := (HMP.out.grew HR.out).lookup key3 map192 (zero190 _) 3 true
      go_upto_region 11 with (fail)
      clear hlk
      go_wp2_with fail
      refine (require96 _ _).mono ?_
      rintro r w4 ⟨hj, rfl⟩
      obtain rfl : r = .returned (.tuple #[]) := hj
      clear u1
      have u0 : w4.cell? ⟨sb, 0, none⟩ = some (.slice CA cn cc) := (HSB.out.grew HR.out).cell rfl
      have u1 : w4.cell? ⟨sb, 1, none⟩ = some (.int .i64 3) := (HSB.out.grew HR.out).cell rfl
      have u2 : w4.cell? ⟨sb, 2, none⟩ = some (.slice FA fn fc) := (HSB.out.grew HR.out).cell rfl
      go_wp2_with fail
      refine (bad93 (HCRT.out.grew HR.out).rp (HST.out.grew HR.out) HALL.out).mono ?_
      rintro r w6 ⟨hj, g6⟩
      have HR6 := Lib.hid (HR.out.trans g6)
      clear u0 u1 u2 g6
      rw [HRU.out] at hj
      cases t with
      | false =>
       obtain rfl : r = .panicked failC := hj
       have HN : Hid (false = false) := rfl
       refine leaves_fail rfl rfl (HRB.out.grew HR6.out) ?_
       have gz := HR6.out
       exact ⟨rfl, blk_end (HCB.out.grew gz) HNE.out, grew_end (HG0.out.trans gz) HRBL.out⟩
      | true =>
       obtain rfl : r = .returned (.tuple #[]) := hj
       have cr : w6.cell? ⟨rb, 0, none⟩ = some (.bool false) := (HRB.out.grew HR6.out).cell rfl
       have fr := (HRB.out.grew HR6.out).frozen 0
       go_wp2
       refine leaves_fine rfl rfl ((HRB.out.grew HR6.out).set 0 (.bool true)) ?_
       exact ⟨rfl, (HCB.out.grew HR6.out).other (fun e => HNE.out e) _, (HG0.out.trans HR6.out).grown (grown_set _ _ _ _) (fun q hq => by injection hq with hq; have := HRBL.out; omega)⟩
     ·skip
      by_cases h4 : ru = 4
      ·subst h4
       have HRU : Hid (costB (envP p) bound ⟨cl, 4, frm⟩ = t) := by unfold Hid; rw [← HRT.out, ← HRR.out]; rfl
       clear HRR HRT h1 h2 h3
       have hlk : (Instr.lookup 192 (.map (some mb)) (.int .i64 4) true).run Tryz.prog w9 = .ok (.tuple #[.func (.func 94) #[] #[], .bool true]) w9 := (HMP.out.grew HR.out).lookup key3 map192 (zero190 _) 4 true
       go_upto_region 11 with (fail)
       clear hlk
       go_wp2_with fail
       refine (require96 _ _).mono ?_
       rintro r w4 ⟨hj, rfl⟩
       obtain rfl : r = .returned (.tuple #[]) := hj
       clear u1
       have u0 : w4.cell? ⟨sb, 0, none⟩ = some (.slice CA cn cc) := (HSB.out.grew HR.out).cell rfl
       have u1 : w4.cell? ⟨sb, 1, none⟩ = some (.int .i64 4) := (HSB.out.grew HR.out).cell rfl
       have u2 : w4.cell? ⟨sb, 2, none⟩ = some (.slice FA fn fc) := (HSB.out.grew HR.out).cell rfl
       go_wp2_with fail
       refine (cost94 (HCRT.out.grew HR.out) (HST.out.grew HR.out) HALL.out).mono ?_
       rintro r w6 ⟨hj, g6⟩
       have HR6 := Lib.hid (HR.out.trans g6)
       clear u0 u1 u2 g6
       rw [HRU.out] at hj
       cases t with
       | false =>
        obtain rfl : r = .panicked failC := hj
        have HN : Hid (false = false) := rfl
        refine leaves_fail rfl rfl (HRB.out.grew HR6.out) ?_
        have gz := HR6.out
        exact ⟨rfl, blk_end (HCB.out.grew gz) HNE.out, grew_end (HG0.out.trans gz) HRBL.out⟩
       | true =>
        obtain rfl : r = .returned (.tuple #[]) := hj
        have cr : w6.cell? ⟨rb, 0, none⟩ = some (.bool false) := (HRB.out.grew HR6.out).cell rfl
        have fr := (HRB.out.grew HR6.out).frozen 0
        go_wp2
        refine leaves_fine rfl rfl ((HRB.out.grew HR6.out).set 0 (.bool true)) ?_
        exact ⟨rfl, (HCB.out.grew HR6.out).other (fun e => HNE.out e) _, (HG0.out.trans HR6.out).grown (grown_set _ _ _ _) (fun q hq => by injection hq with hq; have := HRBL.out; omega)⟩
      ·skip
       by_cases h5 : ru = 5
       ·subst h5
        have HRU : Hid (unitB log kk ⟨cl, 5, frm⟩ = t) := by unfold Hid; rw [← HRT.out, ← HRR.out]; rfl
        clear HRR HRT h1 h2 h3 h4
        have hlk : (Instr.lookup 192 (.map (some mb)) (.int .i64 5) true).run Tryz.prog w9 = .ok (.tuple #[.func (.func 95) #[] #[], .bool true]) w9 := (HMP.out.grew HR.out).lookup key3 map192 (zero190 _) 5 true
        go_upto_region 11 with (fail)
        clear hlk
        go_wp2_with fail
        refine (require96 _ _).mono ?_
        rintro r w4 ⟨hj, rfl⟩
        obtain rfl : r = .returned (.tuple #[]) := hj
        clear u1
        have u0 : w4.cell? ⟨sb, 0, none⟩ = some (.slice CA cn cc) := (HSB.out.grew HR.out).cell rfl
        have u1 : w4.cell? ⟨sb, 1, none⟩ = some (.int .i64 5) := (HSB.out.grew HR.out).cell rfl
        have u2 : w4.cell? ⟨sb, 2, none⟩ = some (.slice FA fn fc) := (HSB.out.grew HR.out).cell rfl
        go_wp2_with fail
        refine (unit95 (HCRT.out.grew HR.out) hk0 HSZ.out (HST.out.grew HR.out)).mono ?_
        rintro r w6 ⟨hj, g6⟩
        have HR6 := Lib.hid (HR.out.trans g6)
        clear u0 u1 u2 g6
        rw [HRU.out] at hj
        cases t with
        | false =>
         obtain rfl : r = .panicked failC := hj
         have HN : Hid (false = false) := rfl
         refine leaves_fail rfl rfl (HRB.out.grew HR6.out) ?_
         have gz := HR6.out
         exact ⟨rfl, blk_end (HCB.out.grew gz) HNE.out, grew_end (HG0.out.trans gz) HRBL.out⟩
        | true =>
         obtain rfl : r = .returned (.tuple #[]) := hj
         have cr : w6.cell? ⟨rb, 0, none⟩ = some (.bool false) := (HRB.out.grew HR6.out).cell rfl
         have fr := (HRB.out.grew HR6.out).frozen 0
         go_wp2
         refine leaves_fine rfl rfl ((HRB.out.grew HR6.out).set 0 (.bool true)) ?_
         exact ⟨rfl, (HCB.out.grew HR6.out).other (fun e => HNE.out e) _, (HG0.out.trans HR6.out).grown (grown_set _ _ _ _) (fun q hq => by injection hq with hq; have := HRBL.out; omega)⟩
       ·skip
        have HN : Hid (t = false) := by unfold Hid; rw [← HRT.out, ← HRR.out, if_neg h1, if_neg h2, if_neg h3, if_neg h4, if_neg h5]
        have hfi : alFind ru ruleM = none := by simp [ruleM, alFind, h1, h2, h3, h4, h5]
        have hlk : (Instr.lookup 192 (.map (some mb)) (.int .i64 ru) true).run Tryz.prog w9 = .ok (.tuple #[.nilFunc, .bool false]) w9 := by
         have h0 := (HMP.out.grew HR.out).lookup key3 map192 (zero190 _) ru true
         rw [hfi] at h0
         exact h0
        clear hfi h1 h2 h3 h4 h5
        go_upto_region 11 with (fail)
        clear hlk
        go_wp2_with fail
        refine (require96 _ _).mono ?_
        rintro r w4 ⟨hj, rfl⟩
        obtain rfl : r = .panicked failC := hj
        refine leaves_fail rfl rfl (HRB.out.grew HR.out) ?_
        have gz := HR.out
        exact ⟨by rw [HN.out], blk_end (HCB.out.grew gz) HNE.out, grew_end (HG0.out.trans gz) HRBL.out⟩
end Go.Proofs.YtnnbibmmofnkdaaGreat
