/-
 Refutations: require, within, negate.
-/
import Derived.Test.YtnnbibmmofnkdaaGreatPlnB
import Derived.Defers
import Derived.Recover
namespace Go.Proofs.YtnnbibmmofnkdaaGreat
open Go.RowKit Go.Proofs WageMem WageReg WageRec WageSpan WageTop
/-- A failed condition. -/
def failC : List PanicEntry := [{ v := .iface 188 (.agg #[]), recovered := false }]
/-- A judgement's end. -/
def Judge (t : Bool) (e : Ending) : Prop := e = if t then .returned (.tuple #[]) else .panicked failC
theorem require96 (t : Bool) (w : World) : Calls Tryz.prog 96 #[.bool t] w fun e w' => Judge t e ∧ w' = w := by
 cases t with
 | true =>
  go_enter Tryz.func96, Tryz.ntmps96
  go_wp2
  refine bodyPost_end (results_none rfl _ _ _) rfl ?_
  exact ⟨rfl, rfl⟩
 | false =>
  go_enter Tryz.func96, Tryz.ntmps96
  go_wp2
  exact ⟨rfl, rfl, rfl⟩
set_option maxRecDepth 100000 in
set_option maxHeartbeats 4000000 in
theorem worker89 (x : Wo) (t : Bool) (w : World) (hs : Spans w x.A x.n x.c x.aw) (h : wOk x = t) : Calls Tryz.prog 89 #[woV x] w fun r w' => r = .returned (.bool t) ∧ Grew w w' := by
 obtain ⟨nm, sk, mi, wg, A, n, c, aw⟩ := x
 have HT := Lib.hid h
 have HS := Lib.hid hs
 have hnl : aw.length = n := hs.1
 have HNL := Lib.hid hnl
 have hn9 : n ≤ 9223372036854775807 := hs.le
 clear h hs hnl
 show Calls Tryz.prog 89 #[.agg #[.string nm, .int .i64 sk, .bool mi, .int .i64 wg, .slice A n c]] w _
 have gb : Grew w (w.alloc (.cells #[.string nm, .int .i64 sk, .bool mi, .int .i64 wg, .slice A n c] 56)) := (Grew.refl w).alloc _
 have X0 := Lib.hid (World.alloc_heap_new w (.cells #[.string nm, .int .i64 sk, .bool mi, .int .i64 wg, .slice A n c] 56))
 obtain ⟨t0, ht0⟩ : ∃ t, decide (0 ≤ sk ∧ sk ≤ 65535) = t := ⟨_, rfl⟩
 obtain ⟨t1, ht1⟩ : ∃ t, decide (0 ≤ wg ∧ wg ≤ 1000000) = t := ⟨_, rfl⟩
 obtain ⟨t3, ht3⟩ : ∃ t, decide (nrm aw = aw) = t := ⟨_, rfl⟩
 have HE : Hid ((t0 && (t1 && (decide (n ≤ 400) && (t3 && awOk aw)))) = t) := by unfold Hid; rw [← HT.out, ← ht0, ← ht1, ← ht3]; rfl
 have T0 := Lib.hid ht0
 have T1 := Lib.hid ht1
 have T3 := Lib.hid ht3
 clear ht0 ht1 ht3 HT
 go_enter Tryz.func89, Tryz.ntmps89
 go_wp2_with fail
 refine (within88 sk 65535 t0 _ T0.out).mono ?_
 rintro r w1 ⟨rfl, g1⟩
 have G1 := gb.trans g1
 have x1 := g1.block X0.out
 cases t0 with
 | false =>
  go_wp2
  go_ret
  exact ⟨congrArg (fun b => Ending.returned (Value.bool b)) HE.out, G1⟩
 | true =>
  have v3 : w1.cell? ⟨w.heap.size, 3, none⟩ = some (.int .i64 wg) := by simp [World.cell?, x1]
  have XX := Lib.hid x1
  clear x1 gb
  go_wp2_with fail
  refine (within88 wg 1000000 t1 _ T1.out).mono ?_
  rintro r w2 ⟨rfl, g2⟩
  have G2 := G1.trans g2
  have x1 := g2.block XX.out
  cases t1 with
  | false =>
   go_wp2
   go_ret
   exact ⟨congrArg (fun b => Ending.returned (Value.bool b)) HE.out, G2⟩
  | true =>
   clear v3
   have v4 : w2.cell? ⟨w.heap.size, 4, none⟩ = some (.slice A n c) := by simp [World.cell?, x1]
   have XY := Lib.hid x1
   clear x1
   by_cases hn4 : n ≤ 400
   ·have q4 : decide ((400 : Int) < (n : Int)) = false := decide_eq_false (by omega)
    have q5 : ¬ ((400 : Int) < (n : Int)) := by omega
    have q6 : decide (400 < n) = false := decide_eq_false (by omega)
    have HE2 : Hid ((t3 && awOk aw) = t) := by unfold Hid; rw [← HE.out, decide_eq_true hn4]; rfl
    have H2 := Lib.hid (HS.out.grew G2)
    clear HE
    go_wp2_with fail
    refine (valid_val H2.out (by omega) T3.out).mono ?_
    rintro r w3 ⟨rfl, g3⟩
    have G3 := Lib.hid (G2.trans g3)
    have x1 := g3.block XY.out
    cases t3 with
    | false =>
     go_wp2
     go_ret
     exact ⟨congrArg (fun b => Ending.returned (Value.bool b)) HE2.out, G3.out⟩
    | true =>
     clear v4
     have v4 : w3.cell? ⟨w.heap.size, 4, none⟩ = some (.slice A n c) := by simp [World.cell?, x1]
     have H3 := Lib.hid (HS.out.grew G3.out)
     clear x1 q4 q5 q6 XX XY g1 g2 g3 G1 G2
     go_wp2_with fail
     clear v4
     go_loopw [28] (fun i y => ∃ k : Nat, k ≤ n ∧ i = .int .i64 k ∧ Hid (awOk (aw.drop k) = t) ∧ Hid (Grew w3 y)) (fun i _ => n - (intOf i).toNat)
     case atStart => exact ⟨0, Nat.zero_le _, rfl, HE2.out, Grew.refl _⟩
     case round =>
      obtain ⟨k, hk, rfl, HK, HR⟩ := hrel
      by_cases hlt : k < n
      ·obtain ⟨b, o, s, hA, hsk, r1, r2, l1, l2⟩ := (H3.out.grew HR.out).at_ hlt
       subst hA
       have HK2 : Hid ((decide (0 ≤ s.1 ∧ s.2 ≤ 52596000) && awOk (aw.drop (k + 1))) = t) := by
        have := HK.out
        rw [List.drop_eq_getElem_cons (by rw [HNL.out]; exact hlt), (List.getElem?_eq_some_iff.1 hsk).2] at this
        exact this
       obtain ⟨s1, s2⟩ := s
       simp only at r1 r2 l1 l2
       have e1 : (0 : Int) ≤ (k : Int) := by omega
       have e2 : (k : Int) < (n : Int) := by omega
       clear HK hsk
       have HKx : Hid ((decide (0 ≤ s1 ∧ s2 ≤ 52596000) && awOk (aw.drop (k + 1))) = t) := HK2
       clear HK2
       obtain ⟨w5, hw5⟩ : ∃ y, y = wr.alloc (.cells #[.int .i64 s1, .int .i64 s2] 28) := ⟨_, rfl⟩
       obtain ⟨ab, hab⟩ : ∃ z, z = wr.heap.size := ⟨_, rfl⟩
       have HB5 : Hid (Blk w5 ab 28 [.int .i64 s1, .int .i64 s2]) := by unfold Hid; rw [hw5, hab]; exact Blk.new wr 28 [.int .i64 s1, .int .i64 s2]
       have HR5 : Hid (Grew w3 w5) := by unfold Hid; rw [hw5]; exact HR.out.alloc _
       go_upto_region 8 with (fail)
       rw [← hw5, ← hab]
       have d0 : w5.cell? ⟨ab, 0, none⟩ = some (.int .i64 s1) := HB5.out.cell rfl
       have d1 : w5.cell? ⟨ab, 1, none⟩ = some (.int .i64 s2) := HB5.out.cell rfl
       clear hw5 hab HR r1 r2
       by_cases h0 : s1 < 0
       ·have q0 : decide (s1 < 0) = true := decide_eq_true h0
        have HF : Hid (false = t) := by unfold Hid; rw [← HKx.out, decide_eq_false (by omega)]; rfl
        go_wp2
        go_ret
        exact ⟨congrArg (fun b => Ending.returned (Value.bool b)) HF.out, G3.out.trans HR5.out⟩
       ·have q0 : decide (s1 < 0) = false := decide_eq_false h0
        by_cases h1 : 52596000 < s2
        ·have q1 : decide (52596000 < s2) = true := decide_eq_true h1
         have HF : Hid (false = t) := by unfold Hid; rw [← HKx.out, decide_eq_false (by omega)]; rfl
         go_wp2
         go_ret
         exact ⟨congrArg (fun b => Ending.returned (Value.bool b)) HF.out, G3.out.trans HR5.out⟩
        ·have q1 : decide (52596000 < s2) = false := decide_eq_false h1
         have HF : Hid (awOk (aw.drop (k + 1)) = t) := by unfold Hid; rw [← HKx.out, decide_eq_true (by omega)]; rfl
         clear HKx
         go_wp2_with fail
         go_roundw
         case rel => exact ⟨k + 1, by omega, by go_num, HF, HR5⟩
         case measure => simp [intOf]; omega
      ·obtain rfl : n = k := by omega
       have HF : Hid (true = t) := by unfold Hid; rw [← HK.out, ← HNL.out, List.drop_length]; rfl
       go_wp2
       go_ret
       exact ⟨congrArg (fun b => Ending.returned (Value.bool b)) HF.out, G3.out.trans HR.out⟩
   ·have q4 : decide ((400 : Int) < (n : Int)) = true := decide_eq_true (by omega)
    have q5 : (400 : Int) < (n : Int) := by omega
    have q6 : decide (400 < n) = true := decide_eq_true (by omega)
    have HE2 : Hid (false = t) := by unfold Hid; rw [← HE.out, decide_eq_false hn4]; rfl
    go_wp2
    go_ret
    exact ⟨congrArg (fun b => Ending.returned (Value.bool b)) HE2.out, G2⟩
theorem size122 : (Tryz.prog.info? 122).map (·.size) = some 3 := by kernel_rfl
theorem results_li {fn : Func} {p : Tmp} (h : fn.results = #[.cell p 122]) (tmps : Array Value) (w : World) (b : Nat) (cs : Array Value) (hp : tmps.getD p undef = .pointer (some ⟨b, 0, none⟩)) (hb : w.heap[b]? = some (.cells cs 122 (0, 0))) (hs : cs.size = 3) :
  (results fn tmps).run Tryz.prog w = .ok (.agg cs) w :=
 results_cell_row h tmps w b 122 cs (0, 0) _ hp hb Tryz.underlying122 rfl (by rw [hs]; exact size122)
theorem negate123 (l : Li) (w : World) : Calls Tryz.prog 123 #[.agg #[.int .i64 l.d, .int .i64 l.w, .bool l.is]] w fun r w' => r = .returned (.agg #[.int .i64 l.neg.d, .int .i64 l.neg.w, .bool l.neg.is]) ∧ Grew w w' := by
 obtain ⟨d, v, is⟩ := l
 show Calls Tryz.prog 123 #[.agg #[.int .i64 d, .int .i64 v, .bool is]] w fun r w' => r = .returned (.agg #[.int .i64 d, .int .i64 v, .bool (!is)]) ∧ Grew w w'
 obtain ⟨w1, hw1⟩ : ∃ y, y = (w.alloc (.cells #[.int .i64 d, .int .i64 v, .bool is] 122)).alloc (.cells #[.int .i64 0, .int .i64 0, .bool false] 122) := ⟨_, rfl⟩
 have g1 : Grew w w1 := by rw [hw1]; exact ((Grew.refl w).alloc _).alloc _
 obtain ⟨a, ha⟩ : ∃ z, z = w.heap.size := ⟨_, rfl⟩
 have HA : Hid (Blk w1 a 122 [.int .i64 d, .int .i64 v, .bool is]) := by unfold Hid; rw [hw1, ha]; exact (Blk.new w 122 [.int .i64 d, .int .i64 v, .bool is]).grew ((Grew.refl _).alloc _)
 have HR : Hid (Blk w1 (a + 1) 122 [.int .i64 0, .int .i64 0, .bool false]) := by
  have h1 := Blk.new (w.alloc (.cells #[.int .i64 d, .int .i64 v, .bool is] 122)) 122 [.int .i64 0, .int .i64 0, .bool false]
  rw [World.size_alloc] at h1
  unfold Hid; rw [hw1, ha]; exact h1
 have hge : w.heap.size ≤ a := by omega
 go_enter Tryz.func123, Tryz.ntmps123
 go_upto_region 1 with (fail)
 rw [← hw1, ← ha]
 clear hw1 ha
 have c2 : w1.cell? ⟨a, 2, none⟩ = some (.bool is) := HA.out.cell rfl
 have f2 := HA.out.frozen 2
 obtain ⟨w2, hw2⟩ : ∃ y, y = w1.setCell ⟨a, 2, none⟩ (.bool (!is)) := ⟨_, rfl⟩
 go_upto_region 2 with (fail)
 rw [← hw2]
 have k2 := grown_set w1 a 2 (.bool (!is))
 rw [← hw2] at k2
 have HA2 : Hid (Blk w2 a 122 [.int .i64 d, .int .i64 v, .bool (!is)]) := by unfold Hid; rw [hw2]; exact HA.out.set 2 _
 have HR2 : Hid (Blk w2 (a + 1) 122 [.int .i64 0, .int .i64 0, .bool false]) := HR.out.kept k2 (fun e => by injection e; omega)
 have g2 : Grew w w2 := g1.grown k2 (fun q hq => by injection hq; omega)
 clear hw2 k2 c2 f2 HA HR
 have v0 : w2.cell? ⟨a, 0, none⟩ = some (.int .i64 d) := HA2.out.cell rfl
 have v1 : w2.cell? ⟨a, 1, none⟩ = some (.int .i64 v) := HA2.out.cell rfl
 have v2 : w2.cell? ⟨a, 2, none⟩ = some (.bool (!is)) := HA2.out.cell rfl
 go_wp2_with (refine wpList_store_row rfl 122 (.tmp 2) (.tmp 7) rfl (a + 1) #[.int .i64 d, .int .i64 v, .bool (!is)] rfl rfl 122 _ HR2.out size122 rfl (by simp [Value.oneCell']) ?_)
 have HB := setRow_heap w2 (a + 1) _ #[.int .i64 d, .int .i64 v, .bool (!is)] 122 (0, 0) HR2.out
 have GF : Grew w (w2.setRow (a + 1) #[.int .i64 d, .int .i64 v, .bool (!is)]) := grew_setRow g2 (by omega) _
 refine bodyPost_ret (results_li rfl _ _ (a + 1) _ rfl HB rfl) rfl ?_
 exact ⟨rfl, GF⟩
end Go.Proofs.YtnnbibmmofnkdaaGreat
namespace Go.Proofs.YtnnbibmmofnkdaaGreat
open Go.RowKit Go.Proofs WageMem WageReg WageRec WageSpan WageTop
def zeroL : List Value := [.string ⟨#[]⟩, .int .i64 0, .slice none 0 0, .slice none 0 0, .slice none 0 0, .int .i64 0, .int .i64 0, .int .i64 0, .int .i64 0, .int .i64 0, .slice none 0 0, .slice none 0 0, .int .i64 0]
def zero13 : Array Value := zeroL.toArray
/-- The cells of a plan's facts. -/
def npC (p : Pl) (M N : Pc) (c : Int) : List Value := planC p ++ [pcV M, pcV N, .int .i64 c]
/-- A plan's facts in memory. -/
structure FactAt (w : World) (p : Pl) (M N : Pc) (ps : List Pc) : Prop where
 pl : PlanAt w p
 Mn : M.n = p.dn
 mins : Recs encP 1 w M.A M.n M.c ps
 minE : Each (fun q l => Spans w q.A q.n q.c l) ps (minsL p)
 night : Ints w N.A N.n N.c (nightL p)
theorem FactAt.grew {w w' : World} {p : Pl} {M N : Pc} {ps : List Pc} (h : FactAt w p M N ps) (g : Grew w w') : FactAt w' p M N ps :=
 ⟨h.pl.grew g, h.Mn, h.mins.grew g, h.minE.imp fun _ _ h => h.grew g, h.night.grew g⟩
/-- What newPlan returns. -/
def RetNp (p : Pl) (w : World) (r : Ending) (w' : World) : Prop :=
 (planB p = true ∧ ∃ M N ps, r = .returned (.tuple #[.agg (npC p M N (cheapest (envP p) p.wn)).toArray, .bool true]) ∧ FactAt w' p M N ps ∧ Grew w w') ∨
 (planB p = false ∧ r = .returned (.tuple #[.agg zero13, .bool false]) ∧ Grew w w')
theorem grown_setRow (W : World) (g : Nat) (cs : Array Value) : W.grownBy (W.setRow g cs) (some g) := ⟨rfl, rfl, rfl, by rw [setRow_size]; exact Nat.le_refl _, fun k _ hne => setRow_other W g k cs (fun e => hne (by rw [e]))⟩
theorem size99 : (Tryz.prog.info? 99).map (·.size) = some 13 := by kernel_rfl
theorem results_np {fn : Func} {p u : Tmp} (h : fn.results = #[.cell p 99, .tmp u]) (tmps : Array Value) (w : World) (b : Nat) (cs : Array Value) (hp : tmps.getD p undef = .pointer (some ⟨b, 0, none⟩)) (hb : w.heap[b]? = some (.cells cs 99 (0, 0))) (hs : cs.size = 13) :
  (results fn tmps).run Tryz.prog w = .ok (.tuple #[.agg cs, tmps.getD u undef]) w := by
 rw [results_cell_tmp h, hp]
 simp [asAddr, run_loadVar_row w b 99 99 cs (0, 0) _ hb Tryz.underlying99 rfl (by rw [hs]; exact size99), Result.andThen, Sem.run_pure]
set_option maxRecDepth 100000 in
set_option maxHeartbeats 16000000 in
theorem newPlan40 (p : Pl) (w : World) (hp : PlanAt w p) : Calls Tryz.prog 40 #[planV p] w (RetNp p w) := by
 obtain ⟨i43, hi43, hz43, hs43, hb43⟩ := info_parts info43
 obtain ⟨i3, hi3, hz3, hs3, hb3⟩ := info_parts info3
 have HP := Lib.hid hp
 have dn9 := hp.ds.le
 have wn9 := hp.ws.le
 clear hp
 show Calls Tryz.prog 40 #[.agg #[.string p.nm, .int .i64 p.zb, .slice p.C p.cn p.cc, .slice p.D p.dn p.dc, .slice p.W p.wn p.wc, .int .i64 p.lm.rest, .int .i64 p.lm.week, .int .i64 p.lm.nf, .int .i64 p.lm.nt, .int .i64 p.lm.mn]] w _
 obtain ⟨wA, hwA⟩ : ∃ y, y = w.alloc (.cells #[.string p.nm, .int .i64 p.zb, .slice p.C p.cn p.cc, .slice p.D p.dn p.dc, .slice p.W p.wn p.wc, .int .i64 p.lm.rest, .int .i64 p.lm.week, .int .i64 p.lm.nf, .int .i64 p.lm.nt, .int .i64 p.lm.mn] 32) := ⟨_, rfl⟩
 obtain ⟨pb, hpb⟩ : ∃ z, z = w.heap.size := ⟨_, rfl⟩
 have gA : Grew w wA := by rw [hwA]; exact (Grew.refl w).alloc _
 have XA : Hid (Blk wA pb 32 (planC p)) := by unfold Hid; rw [hwA, hpb]; exact Blk.new w 32 (planC p)
 obtain ⟨wB, hwB⟩ : ∃ y, y = wA.alloc (.cells #[.string ⟨#[]⟩, .int .i64 0, .slice none 0 0, .slice none 0 0, .slice none 0 0, .int .i64 0, .int .i64 0, .int .i64 0, .int .i64 0, .int .i64 0, .slice none 0 0, .slice none 0 0, .int .i64 0] 99) := ⟨_, rfl⟩
 have hsA : wA.heap.size = pb + 1 := by rw [hwA, hpb]; simp
 obtain ⟨rb, hrb⟩ : ∃ z, z = pb + 1 := ⟨_, rfl⟩
 have gB : Grew wA wB := by rw [hwB]; exact (Grew.refl wA).alloc _
 have RB0 : Hid (wB.heap[rb]? = some (.cells #[.string ⟨#[]⟩, .int .i64 0, .slice none 0 0, .slice none 0 0, .slice none 0 0, .int .i64 0, .int .i64 0, .int .i64 0, .int .i64 0, .int .i64 0, .slice none 0 0, .slice none 0 0, .int .i64 0] 99)) := by unfold Hid; rw [hwB, hrb, ← hsA]; exact World.alloc_heap_new wA _
 have XB := Lib.hid (XA.out.grew gB)
 have HGB := Lib.hid (gA.trans gB)
 have HRBG : Hid (w.heap.size ≤ rb) := by unfold Hid; omega
 have HRP : Hid (rb = pb + 1) := hrb
 clear hsA
 go_enter Tryz.func40, Tryz.ntmps40
 go_upto_region 1 with (fail)
 rw [← hwA, ← hpb]
 rw [← hwB, ← hrb]
 clear hwA hwB hpb hrb gA gB XA
 have v0 : wB.cell? ⟨pb, 0, none⟩ = some (.string p.nm) := XB.out.cell rfl
 have v1 : wB.cell? ⟨pb, 1, none⟩ = some (.int .i64 p.zb) := XB.out.cell rfl
 have v2 : wB.cell? ⟨pb, 2, none⟩ = some (.slice p.C p.cn p.cc) := XB.out.cell rfl
 have v3 : wB.cell? ⟨pb, 3, none⟩ = some (.slice p.D p.dn p.dc) := XB.out.cell rfl
 have v4 : wB.cell? ⟨pb, 4, none⟩ = some (.slice p.W p.wn p.wc) := XB.out.cell rfl
 have v5 : wB.cell? ⟨pb, 5, none⟩ = some (.int .i64 p.lm.rest) := XB.out.cell rfl
 have v6 : wB.cell? ⟨pb, 6, none⟩ = some (.int .i64 p.lm.week) := XB.out.cell rfl
 have v7 : wB.cell? ⟨pb, 7, none⟩ = some (.int .i64 p.lm.nf) := XB.out.cell rfl
 have v8 : wB.cell? ⟨pb, 8, none⟩ = some (.int .i64 p.lm.nt) := XB.out.cell rfl
 have v9 : wB.cell? ⟨pb, 9, none⟩ = some (.int .i64 p.lm.mn) := XB.out.cell rfl
 obtain ⟨wC, hwC⟩ : ∃ y, y = wB.alloc (.cells #[.string p.nm, .int .i64 p.zb, .slice p.C p.cn p.cc, .slice p.D p.dn p.dc, .slice p.W p.wn p.wc, .int .i64 p.lm.rest, .int .i64 p.lm.week, .int .i64 p.lm.nf, .int .i64 p.lm.nt, .int .i64 p.lm.mn, .slice none 0 0, .slice none 0 0, .int .i64 0] 99) := ⟨_, rfl⟩
 obtain ⟨fb, hfb⟩ : ∃ z, z = wB.heap.size := ⟨_, rfl⟩
 have gC : Grew wB wC := by rw [hwC]; exact (Grew.refl wB).alloc _
 have HFC : Hid (Blk wC fb 99 (npC p ⟨none, 0, 0⟩ ⟨none, 0, 0⟩ 0)) := by unfold Hid; rw [hwC, hfb]; exact Blk.new wB 99 (npC p ⟨none, 0, 0⟩ ⟨none, 0, 0⟩ 0)
 have XC := Lib.hid (XB.out.grew gC)
 have RBC := Lib.hid (gC.block RB0.out)
 have HGC := Lib.hid (HGB.out.trans gC)
 have HFR : Hid (rb < fb) := by unfold Hid; rw [hfb]; exact (Array.getElem?_eq_some_iff.1 RB0.out).1
 go_upto_region 2 with (fail)
 rw [← hwC, ← hfb]
 clear v0 v1 v2 v3 v4 v5 v6 v7 v8 v9 hwC gC XB RB0 HGB
 have v0 : wC.cell? ⟨pb, 0, none⟩ = some (.string p.nm) := XC.out.cell rfl
 have v1 : wC.cell? ⟨pb, 1, none⟩ = some (.int .i64 p.zb) := XC.out.cell rfl
 have v2 : wC.cell? ⟨pb, 2, none⟩ = some (.slice p.C p.cn p.cc) := XC.out.cell rfl
 have v3 : wC.cell? ⟨pb, 3, none⟩ = some (.slice p.D p.dn p.dc) := XC.out.cell rfl
 have v4 : wC.cell? ⟨pb, 4, none⟩ = some (.slice p.W p.wn p.wc) := XC.out.cell rfl
 have v5 : wC.cell? ⟨pb, 5, none⟩ = some (.int .i64 p.lm.rest) := XC.out.cell rfl
 have v6 : wC.cell? ⟨pb, 6, none⟩ = some (.int .i64 p.lm.week) := XC.out.cell rfl
 have v7 : wC.cell? ⟨pb, 7, none⟩ = some (.int .i64 p.lm.nf) := XC.out.cell rfl
 have v8 : wC.cell? ⟨pb, 8, none⟩ = some (.int .i64 p.lm.nt) := XC.out.cell rfl
 have v9 : wC.cell? ⟨pb, 9, none⟩ = some (.int .i64 p.lm.mn) := XC.out.cell rfl
 obtain ⟨wD, hwD⟩ : ∃ y, y = wC.alloc (.cells #[.int .i64 p.lm.rest, .int .i64 p.lm.week, .int .i64 p.lm.nf, .int .i64 p.lm.nt, .int .i64 p.lm.mn] 30) := ⟨_, rfl⟩
 obtain ⟨lb, hlb⟩ : ∃ z, z = wC.heap.size := ⟨_, rfl⟩
 have gD : Grew wC wD := by rw [hwD]; exact (Grew.refl wC).alloc _
 have HLD : Hid (Blk wD lb 30 [.int .i64 p.lm.rest, .int .i64 p.lm.week, .int .i64 p.lm.nf, .int .i64 p.lm.nt, .int .i64 p.lm.mn]) := by unfold Hid; rw [hwD, hlb]; exact Blk.new wC 30 [.int .i64 p.lm.rest, .int .i64 p.lm.week, .int .i64 p.lm.nf, .int .i64 p.lm.nt, .int .i64 p.lm.mn]
 have HFD := Lib.hid (HFC.out.grew gD)
 have XD := Lib.hid (XC.out.grew gD)
 have RBD := Lib.hid (gD.block RBC.out)
 have HGD := Lib.hid (HGC.out.trans gD)
 have HLF : Hid (fb < lb) := by unfold Hid; rw [hlb]; exact HFC.out.lt
 go_upto_region 3 with (fail)
 rw [← hwD, ← hlb]
 clear v0 v1 v2 v3 v4 v5 v6 v7 v8 v9 hwD hlb hfb gD XC RBC HGC HFC
 have v0 : wD.cell? ⟨pb, 0, none⟩ = some (.string p.nm) := XD.out.cell rfl
 have v1 : wD.cell? ⟨pb, 1, none⟩ = some (.int .i64 p.zb) := XD.out.cell rfl
 have v2 : wD.cell? ⟨pb, 2, none⟩ = some (.slice p.C p.cn p.cc) := XD.out.cell rfl
 have v3 : wD.cell? ⟨pb, 3, none⟩ = some (.slice p.D p.dn p.dc) := XD.out.cell rfl
 have v4 : wD.cell? ⟨pb, 4, none⟩ = some (.slice p.W p.wn p.wc) := XD.out.cell rfl
 have v5 : wD.cell? ⟨pb, 5, none⟩ = some (.int .i64 p.lm.rest) := XD.out.cell rfl
 have v6 : wD.cell? ⟨pb, 6, none⟩ = some (.int .i64 p.lm.week) := XD.out.cell rfl
 have v7 : wD.cell? ⟨pb, 7, none⟩ = some (.int .i64 p.lm.nf) := XD.out.cell rfl
 have v8 : wD.cell? ⟨pb, 8, none⟩ = some (.int .i64 p.lm.nt) := XD.out.cell rfl
 have v9 : wD.cell? ⟨pb, 9, none⟩ = some (.int .i64 p.lm.mn) := XD.out.cell rfl
 obtain ⟨tz, htz⟩ : ∃ t, znB ⟨p.zb, p.ch⟩ = t := ⟨_, rfl⟩
 have HTZ := Lib.hid htz
 clear htz
 go_wp2_with fail
 refine (zvalid12 p.nm p.zb p.C p.cn p.cc p.ch wD tz (HP.out.ch.grew HGD.out) HTZ.out).mono ?_
 rintro r w1 ⟨rfl, g1⟩
 clear v0 v1 v2 v3 v4 v5 v6 v7 v8 v9
 have HF1 := Lib.hid (HFD.out.grew g1)
 have HL1 := Lib.hid (HLD.out.grew g1)
 have X1 := Lib.hid (XD.out.grew g1)
 have RB1 := Lib.hid (g1.block RBD.out)
 have HG1 := Lib.hid (HGD.out.trans g1)
 clear HFD HLD XD RBD HGD g1
 cases tz with
 | false =>
  have HE : Hid (planB p = false) := by unfold Hid planB; rw [show p.z = ⟨p.zb, p.ch⟩ from rfl, HTZ.out]; rfl
  go_wp2_with (refine wpList_store_row rfl 99 (.tmp 2) (.tmp 63) rfl rb zero13 rfl rfl 99 _ RB1.out size99 rfl (by simp [zero13, zeroL, Value.oneCell']) ?_)
  refine bodyPost_ret (results_np rfl _ _ rb _ rfl (setRow_heap w1 rb _ zero13 99 (0, 0) RB1.out) rfl) rfl ?_
  exact .inr ⟨HE.out, rfl, grew_setRow HG1.out HRBG.out _⟩
 | true =>
  have v3 : w1.cell? ⟨pb, 3, none⟩ = some (.slice p.D p.dn p.dc) := X1.out.cell rfl
  have v4 : w1.cell? ⟨pb, 4, none⟩ = some (.slice p.W p.wn p.wc) := X1.out.cell rfl
  by_cases hd : p.dn ≤ 24
  ·have q1 : decide ((p.dn : Int) ≤ 24) = true := decide_eq_true (by omega)
   have q2 : (p.dn : Int) ≤ 24 := by omega
   by_cases hw : p.wn ≤ 12
   ·have q3 : decide ((p.wn : Int) ≤ 12) = true := decide_eq_true (by omega)
    have q4 : (p.wn : Int) ≤ 12 := by omega
    have l0 : w1.cell? ⟨lb, 0, none⟩ = some (.int .i64 p.lm.rest) := HL1.out.cell rfl
    obtain ⟨t1, ht1⟩ : ∃ t, decide (0 ≤ p.lm.rest ∧ p.lm.rest ≤ 10080) = t := ⟨_, rfl⟩
    have T1 := Lib.hid ht1
    clear ht1
    go_wp2_with fail
    refine (within88 p.lm.rest 10080 t1 _ T1.out).mono ?_
    rintro r w2 ⟨rfl, g1⟩
    clear l0
    have HF2 := Lib.hid (HF1.out.grew g1)
    have HL2 := Lib.hid (HL1.out.grew g1)
    have X2 := Lib.hid (X1.out.grew g1)
    have RB2 := Lib.hid ((g1).block RB1.out)
    have HG2 := Lib.hid (HG1.out.trans g1)
    clear HF1 HL1 X1 RB1 HG1 g1
    cases t1 with
    | false =>
     have HE : Hid (planB p = false) := by unfold Hid planB lOk; rw [T1.out]; simp
     go_wp2_with (refine wpList_store_row rfl 99 (.tmp 2) (.tmp 63) rfl rb zero13 rfl rfl 99 _ RB2.out size99 rfl (by simp [zero13, zeroL, Value.oneCell']) ?_)
     refine bodyPost_ret (results_np rfl _ _ rb _ rfl (setRow_heap w2 rb _ zero13 99 (0, 0) RB2.out) rfl) rfl ?_
     exact .inr ⟨HE.out, rfl, grew_setRow HG2.out HRBG.out _⟩
    | true =>
     have l1 : w2.cell? ⟨lb, 1, none⟩ = some (.int .i64 p.lm.week) := HL2.out.cell rfl
     obtain ⟨t2, ht2⟩ : ∃ t, decide (0 ≤ p.lm.week ∧ p.lm.week ≤ 20000) = t := ⟨_, rfl⟩
     have T2 := Lib.hid ht2
     clear ht2
     go_wp2_with fail
     refine (within88 p.lm.week 20000 t2 _ T2.out).mono ?_
     rintro r w3 ⟨rfl, g1⟩
     clear l1
     have HF3 := Lib.hid (HF2.out.grew g1)
     have HL3 := Lib.hid (HL2.out.grew g1)
     have X3 := Lib.hid (X2.out.grew g1)
     have RB3 := Lib.hid ((g1).block RB2.out)
     have HG3 := Lib.hid (HG2.out.trans g1)
     clear HF2 HL2 X2 RB2 HG2 g1
     cases t2 with
     | false =>
      have HE : Hid (planB p = false) := by unfold Hid planB lOk; rw [T2.out]; simp
      go_wp2_with (refine wpList_store_row rfl 99 (.tmp 2) (.tmp 63) rfl rb zero13 rfl rfl 99 _ RB3.out size99 rfl (by simp [zero13, zeroL, Value.oneCell']) ?_)
      refine bodyPost_ret (results_np rfl _ _ rb _ rfl (setRow_heap w3 rb _ zero13 99 (0, 0) RB3.out) rfl) rfl ?_
      exact .inr ⟨HE.out, rfl, grew_setRow HG3.out HRBG.out _⟩
     | true =>
      have l4 : w3.cell? ⟨lb, 4, none⟩ = some (.int .i64 p.lm.mn) := HL3.out.cell rfl
      obtain ⟨t3, ht3⟩ : ∃ t, decide (0 ≤ p.lm.mn ∧ p.lm.mn ≤ 1500) = t := ⟨_, rfl⟩
      have T3 := Lib.hid ht3
      clear ht3
      go_wp2_with fail
      refine (within88 p.lm.mn 1500 t3 _ T3.out).mono ?_
      rintro r w4 ⟨rfl, g1⟩
      clear l4
      have HF4 := Lib.hid (HF3.out.grew g1)
      have HL4 := Lib.hid (HL3.out.grew g1)
      have X4 := Lib.hid (X3.out.grew g1)
      have RB4 := Lib.hid ((g1).block RB3.out)
      have HG4 := Lib.hid (HG3.out.trans g1)
      clear HF3 HL3 X3 RB3 HG3 g1
      cases t3 with
      | false =>
       have HE : Hid (planB p = false) := by unfold Hid planB lOk; rw [T3.out]; simp
       go_wp2_with (refine wpList_store_row rfl 99 (.tmp 2) (.tmp 63) rfl rb zero13 rfl rfl 99 _ RB4.out size99 rfl (by simp [zero13, zeroL, Value.oneCell']) ?_)
       refine bodyPost_ret (results_np rfl _ _ rb _ rfl (setRow_heap w4 rb _ zero13 99 (0, 0) RB4.out) rfl) rfl ?_
       exact .inr ⟨HE.out, rfl, grew_setRow HG4.out HRBG.out _⟩
      | true =>
       have l2 : w4.cell? ⟨lb, 2, none⟩ = some (.int .i64 p.lm.nf) := HL4.out.cell rfl
       obtain ⟨t4, ht4⟩ : ∃ t, decide (0 ≤ p.lm.nf ∧ p.lm.nf ≤ 1440) = t := ⟨_, rfl⟩
       have T4 := Lib.hid ht4
       clear ht4
       go_wp2_with fail
       refine (within88 p.lm.nf 1440 t4 _ T4.out).mono ?_
       rintro r w5 ⟨rfl, g1⟩
       clear l2
       have HF5 := Lib.hid (HF4.out.grew g1)
       have HL5 := Lib.hid (HL4.out.grew g1)
       have X5 := Lib.hid (X4.out.grew g1)
       have RB5 := Lib.hid ((g1).block RB4.out)
       have HG5 := Lib.hid (HG4.out.trans g1)
       clear HF4 HL4 X4 RB4 HG4 g1
       cases t4 with
       | false =>
        have HE : Hid (planB p = false) := by unfold Hid planB lOk; rw [T4.out]; simp
        go_wp2_with (refine wpList_store_row rfl 99 (.tmp 2) (.tmp 63) rfl rb zero13 rfl rfl 99 _ RB5.out size99 rfl (by simp [zero13, zeroL, Value.oneCell']) ?_)
        refine bodyPost_ret (results_np rfl _ _ rb _ rfl (setRow_heap w5 rb _ zero13 99 (0, 0) RB5.out) rfl) rfl ?_
        exact .inr ⟨HE.out, rfl, grew_setRow HG5.out HRBG.out _⟩
       | true =>
        have l3 : w5.cell? ⟨lb, 3, none⟩ = some (.int .i64 p.lm.nt) := HL5.out.cell rfl
        obtain ⟨t5, ht5⟩ : ∃ t, decide (0 ≤ p.lm.nt ∧ p.lm.nt ≤ 1440) = t := ⟨_, rfl⟩
        have T5 := Lib.hid ht5
        clear ht5
        go_wp2_with fail
        refine (within88 p.lm.nt 1440 t5 _ T5.out).mono ?_
        rintro r w6 ⟨rfl, g1⟩
        clear l3
        have HF6 := Lib.hid (HF5.out.grew g1)
        have HL6 := Lib.hid (HL5.out.grew g1)
        have X6 := Lib.hid (X5.out.grew g1)
        have RB6 := Lib.hid ((g1).block RB5.out)
        have HG6 := Lib.hid (HG5.out.trans g1)
        clear HF5 HL5 X5 RB5 HG5 g1
        cases t5 with
        | false =>
         have HE : Hid (planB p = false) := by unfold Hid planB lOk; rw [T5.out]; simp
         go_wp2_with (refine wpList_store_row rfl 99 (.tmp 2) (.tmp 63) rfl rb zero13 rfl rfl 99 _ RB6.out size99 rfl (by simp [zero13, zeroL, Value.oneCell']) ?_)
         refine bodyPost_ret (results_np rfl _ _ rb _ rfl (setRow_heap w6 rb _ zero13 99 (0, 0) RB6.out) rfl) rfl ?_
         exact .inr ⟨HE.out, rfl, grew_setRow HG6.out HRBG.out _⟩
        | true =>
         have c3 : w6.cell? ⟨pb, 3, none⟩ = some (.slice p.D p.dn p.dc) := X6.out.cell rfl
         have HLM : Hid (lOk p.lm = true) := by unfold Hid lOk; rw [T1.out, T2.out, T3.out, T4.out, T5.out]; rfl
         have hnf : 0 ≤ p.lm.nf ∧ p.lm.nf ≤ 1440 := of_decide_eq_true T4.out
         have hnt : 0 ≤ p.lm.nt ∧ p.lm.nt ≤ 1440 := of_decide_eq_true T5.out
         have HNF := Lib.hid hnf
         have HNT := Lib.hid hnt
         have HZR : Hid (Blk w6 rb 99 zeroL) := RB6.out
         have HDL : Hid (p.ds.length = p.dn) := HP.out.ds.len
         have HWL : Hid (p.ws.length = p.wn) := HP.out.ws.len
         have HD24 := Lib.hid hd
         have HW12 := Lib.hid hw
         clear hnf hnt T1 T2 T3 T4 T5 RB6
         go_wp2_with fail
         clear c3
         go_loopw [67] (fun i y => ∃ (k : Nat) (ps : List Pc) (MA NA : Option Addr) (Mc Nc : Nat), k ≤ p.dn ∧ i = .int .i64 k ∧
          Hid (Blk y fb 99 (npC p ⟨MA, k, Mc⟩ ⟨NA, k, Nc⟩ 0)) ∧
          Hid (y.ownsRow w.heap.size 43 1 (.slice MA k Mc) k (ps.flatMap encP)) ∧
          Hid (y.ownsRow w.heap.size 3 1 (.slice NA k Nc) k (((nightL p).take k).map iv)) ∧
          Hid (Each (fun q l => y.ownsRow w.heap.size 49 2 (pcV q) q.n (flat l) ∧ l.length = q.n ∧ In64 l) ps ((minsL p).take k)) ∧
          Hid (Blk y pb 32 (planC p)) ∧ Hid (Blk y rb 99 zeroL) ∧ Hid (Blk y lb 30 [.int .i64 p.lm.rest, .int .i64 p.lm.week, .int .i64 p.lm.nf, .int .i64 p.lm.nt, .int .i64 p.lm.mn]) ∧ Hid ((p.ds.take k).all (dOk p.z) = true) ∧ Hid (Grew w y)) (fun i _ => p.dn - (intOf i).toNat)
         case atStart => exact ⟨0, [], none, none, 0, 0, Nat.zero_le _, rfl, HF6.out, World.ownsRow_nil _ _ _ _, World.ownsRow_nil _ _ _ _, Each.nil, X6.out, HZR.out, HL6.out, rfl, HG6.out⟩
         case round =>
          clear HF6 X6 HZR HL6 HG6
          obtain ⟨k, ps, MA, NA, Mc, Nc, hk, rfl, HBwr, OMwr, ONwr, HEwr, HXwr, HZwr, HLL, HDA, HRwr⟩ := hrel
          by_cases hlt : k < p.dn
          ·obtain ⟨b, o, x, hA, hx, ⟨c0, c1, c2⟩, _⟩ := (HP.out.grew HRwr.out).ds.at_ hlt
           have HXM : Hid ((minsL p).take (k + 1) = (minsL p).take k ++ [splitL ⟨p.zb, p.ch⟩ x.a x.b]) := by unfold Hid minsL; rw [List.take_add_one, List.getElem?_map, hx]; rfl
           have HXN : Hid ((nightL p).take (k + 1) = (nightL p).take k ++ [winT ⟨p.zb, p.ch⟩ x.a x.b p.lm.nf p.lm.nt]) := by unfold Hid nightL; rw [List.take_add_one, List.getElem?_map, hx]; rfl
           have HXD : Hid (p.ds.take (k + 1) = p.ds.take k ++ [x]) := by unfold Hid; rw [List.take_add_one, hx]; rfl
           have HMEM := Lib.hid (List.mem_of_getElem? hx)
           have HDB : Hid (dOk p.z x = (durOk x && splitB ⟨p.zb, p.ch⟩ x.a x.b)) := rfl
           have cD : wr.cell? ⟨pb, 3, none⟩ = some (.slice p.D p.dn p.dc) := HXwr.out.cell rfl
           rw [hA] at cD
           clear hx
           obtain ⟨xa, xb, xs⟩ := x
           simp only at c0 c1 c2 HXM HXN HDB
           have e1 : (0 : Int) ≤ (k : Int) := by omega
           have e2 : (k : Int) < (p.dn : Int) := by omega
           obtain ⟨wa, hwa⟩ : ∃ y, y = wr.alloc (.cells #[.int .i64 xa, .int .i64 xb, .int .i64 xs] 47) := ⟨_, rfl⟩
           obtain ⟨ba, hba⟩ : ∃ z, z = wr.heap.size := ⟨_, rfl⟩
           have XA : Hid (Blk wa ba 47 [.int .i64 xa, .int .i64 xb, .int .i64 xs]) := by unfold Hid; rw [hwa, hba]; exact Blk.new wr 47 [.int .i64 xa, .int .i64 xb, .int .i64 xs]
           have ga : Grew wr wa := by rw [hwa]; exact (Grew.refl wr).alloc _
           rw [hA]
           go_upto_region 9 with (fail)
           rw [← hwa, ← hba]
           clear hwa hba c0 c1 c2 cD hA
           have OMwa := Lib.hid (own_grew OMwr.out ga)
           have ONwa := Lib.hid (own_grew ONwr.out ga)
           have HBwa := Lib.hid (HBwr.out.grew ga)
           have HXwa := Lib.hid (HXwr.out.grew ga)
           have HZwa := Lib.hid (HZwr.out.grew ga)
           have HRwa := Lib.hid (HRwr.out.trans ga)
           have HEwa := Lib.hid (HEwr.out.imp (S := fun q l => wa.ownsRow w.heap.size 49 2 (pcV q) q.n (flat l) ∧ l.length = q.n ∧ In64 l) fun q l h => ⟨own_grew h.1 ga, h.2⟩)
           have HLa := Lib.hid (HLL.out.grew ga)
           clear OMwr ONwr HBwr HXwr HZwr HRwr HEwr HLL ga
           have v0 : wa.cell? ⟨pb, 0, none⟩ = some (.string p.nm) := HXwa.out.cell rfl
           have v1 : wa.cell? ⟨pb, 1, none⟩ = some (.int .i64 p.zb) := HXwa.out.cell rfl
           have v2 : wa.cell? ⟨pb, 2, none⟩ = some (.slice p.C p.cn p.cc) := HXwa.out.cell rfl
           have u0 : wa.cell? ⟨ba, 0, none⟩ = some (.int .i64 xa) := XA.out.cell rfl
           have u1 : wa.cell? ⟨ba, 1, none⟩ = some (.int .i64 xb) := XA.out.cell rfl
           have u2 : wa.cell? ⟨ba, 2, none⟩ = some (.int .i64 xs) := XA.out.cell rfl
           go_wp2_with fail
           refine (min14 p.nm p.zb p.C p.cn p.cc p.ch ⟨xa, xb, xs⟩ wa (HP.out.ch.grew HRwa.out) HTZ.out).mono ?_
           intro r w4 hr
           clear v0 v1 v2 u0 u1 u2
           rcases hr with ⟨hd1, ⟨hd2, A5, n5, c5, rfl, ⟨hsp, hown⟩, g4⟩ | ⟨hd2, rfl, g4⟩⟩ | ⟨hd1, rfl, g4⟩
           ·have HD1 := Lib.hid hd1
            have HDT : Hid (dOk p.z ⟨xa, xb, xs⟩ = true) := by unfold Hid; rw [HDB.out, hd1]; exact hd2
            have HOW : Hid (w4.ownsRow w.heap.size 49 2 (.slice A5 n5 c5) n5 (flat (splitL ⟨p.zb, p.ch⟩ xa xb))) := own_base hown HRwa.out.le
            have HLN : Hid ((splitL ⟨p.zb, p.ch⟩ xa xb).length = n5) := hsp.1
            have HI6 : Hid (In64 (splitL ⟨p.zb, p.ch⟩ xa xb)) := hsp.2.2
            have OMw4 := Lib.hid (own_grew OMwa.out g4)
            have ONw4 := Lib.hid (own_grew ONwa.out g4)
            have HBw4 := Lib.hid (HBwa.out.grew g4)
            have HXw4 := Lib.hid (HXwa.out.grew g4)
            have HZw4 := Lib.hid (HZwa.out.grew g4)
            have HRw4 := Lib.hid (HRwa.out.trans g4)
            have HEw4 := Lib.hid (HEwa.out.imp (S := fun q l => w4.ownsRow w.heap.size 49 2 (pcV q) q.n (flat l) ∧ l.length = q.n ∧ In64 l) fun q l h => ⟨own_grew h.1 g4, h.2⟩)
            have XA4 := Lib.hid (XA.out.grew g4)
            have HL4 := Lib.hid (HLa.out.grew g4)
            clear OMwa ONwa HBwa HXwa HZwa HRwa HEwa HLa XA hsp hown g4 hd1 hd2 HDB
            have v0 : w4.cell? ⟨pb, 0, none⟩ = some (.string p.nm) := HXw4.out.cell rfl
            have v1 : w4.cell? ⟨pb, 1, none⟩ = some (.int .i64 p.zb) := HXw4.out.cell rfl
            have v2 : w4.cell? ⟨pb, 2, none⟩ = some (.slice p.C p.cn p.cc) := HXw4.out.cell rfl
            have u0 : w4.cell? ⟨ba, 0, none⟩ = some (.int .i64 xa) := XA4.out.cell rfl
            have u1 : w4.cell? ⟨ba, 1, none⟩ = some (.int .i64 xb) := XA4.out.cell rfl
            have u2 : w4.cell? ⟨ba, 2, none⟩ = some (.int .i64 xs) := XA4.out.cell rfl
            have y2 : w4.cell? ⟨lb, 2, none⟩ = some (.int .i64 p.lm.nf) := HL4.out.cell rfl
            have y3 : w4.cell? ⟨lb, 3, none⟩ = some (.int .i64 p.lm.nt) := HL4.out.cell rfl
            go_wp2_with fail
            refine (night72 p.nm p.zb p.C p.cn p.cc p.ch ⟨xa, xb, xs⟩ p.lm.nf p.lm.nt w4 (HP.out.ch.grew HRw4.out) HTZ.out HD1.out HNF.out HNT.out).mono ?_
            rintro r w5 ⟨rfl, g5⟩
            clear v0 v1 v2 u0 u1 u2 y2 y3 XA4
            have OMw5 := Lib.hid (own_grew OMw4.out g5)
            have ONw5 := Lib.hid (own_grew ONw4.out g5)
            have HBw5 := Lib.hid (HBw4.out.grew g5)
            have HXw5 := Lib.hid (HXw4.out.grew g5)
            have HZw5 := Lib.hid (HZw4.out.grew g5)
            have HRw5 := Lib.hid (HRw4.out.trans g5)
            have HEw5 := Lib.hid (HEw4.out.imp (S := fun q l => w5.ownsRow w.heap.size 49 2 (pcV q) q.n (flat l) ∧ l.length = q.n ∧ In64 l) fun q l h => ⟨own_grew h.1 g5, h.2⟩)
            have HL5 := Lib.hid (HL4.out.grew g5)
            have HOW5 := Lib.hid (own_grew HOW.out g5)
            clear OMw4 ONw4 HBw4 HXw4 HZw4 HRw4 HEw4 HL4 HOW g5
            go_upto_region 13 with (fail)
            obtain ⟨wy, hwy⟩ : ∃ y, y = w5.alloc (.cells #[.slice A5 n5 c5] 43) := ⟨_, rfl⟩
            have gy : Grew w5 wy := by rw [hwy]; exact (Grew.refl w5).alloc _
            have BI : Hid (Sl wy 1 (some ⟨w5.heap.size, 0, none⟩) 1 1 (encP ⟨A5, n5, c5⟩)) := by unfold Hid; rw [hwy]; exact builtS (w := w5) (t := 43) 1 1 #[.slice A5 n5 c5] _ rfl rfl (by decide)
            have OMwy := Lib.hid (own_grew OMw5.out gy)
            have ONwy := Lib.hid (own_grew ONw5.out gy)
            have HBwy := Lib.hid (HBw5.out.grew gy)
            have HXwy := Lib.hid (HXw5.out.grew gy)
            have HZwy := Lib.hid (HZw5.out.grew gy)
            have HRwy := Lib.hid (HRw5.out.trans gy)
            have HEwy := Lib.hid (HEw5.out.imp (S := fun q l => wy.ownsRow w.heap.size 49 2 (pcV q) q.n (flat l) ∧ l.length = q.n ∧ In64 l) fun q l h => ⟨own_grew h.1 gy, h.2⟩)
            have HLy := Lib.hid (HL5.out.grew gy)
            have HOWy := Lib.hid (own_grew HOW5.out gy)
            have cB : w5.cell? ⟨fb, 10, none⟩ = some (.slice MA k Mc) := HBw5.out.cell rfl
            clear gy OMw5 ONw5 HBw5 HXw5 HZw5 HRw5 HEw5 HL5 HOW5
            go_upto_region 14 with (at_builtin; rw [← hwy]; refine wpList_append_sl _ rfl (.tmp 91) (.tmp 93) 97 rfl w.heap.size 43 i43 (.slice none 0 0) 1 24 Tryz.underlying97 hi43 hz43 hs43 hb43 rfl (by decide) (.slice MA k Mc) k _ rfl OMwy.out (some ⟨w5.heap.size, 0, none⟩) 1 1 _ rfl BI.out (fun u hu => encP_ok.one _ u hu) (by unfold maxLen; omega) (by omega) HRwy.out.le ?_; intro v7 w7 own7 hg7 hat7; obtain ⟨A7, c7, rfl⟩ := own_form own7; have HB7 := Lib.hid (HBwy.out.kept hg7 (own_blk OMwy.out HBwy.out (by decide))); have c7' := HB7.out.cell (i := 10) (v := .slice MA k Mc) rfl; have f7 := HB7.out.frozen 10)
            have HL7 := Lib.hid (HLy.out.kept hg7 (own_blk OMwy.out HLy.out (by decide)))
            obtain ⟨w8, hnw⟩ : ∃ y, y = w7.setCell ⟨fb, 10, none⟩ (.slice A7 (k + 1) c7) := ⟨_, rfl⟩
            rw [← hnw]
            have G8 := Lib.hid (grown_set w7 fb 10 (.slice A7 (k + 1) c7))
            rw [← hnw] at G8
            have HBw8 : Hid (Blk w8 fb 99 (npC p ⟨A7, k + 1, c7⟩ ⟨NA, k, Nc⟩ 0)) := by unfold Hid; rw [hnw]; exact HB7.out.set 10 _
            have hnM : ∀ (t : TypeId), t ≠ 99 → ∀ (size n : Nat) (v : Value) (xs : List Value), w7.ownsRow w.heap.size t size v n xs → w8.ownsRow w.heap.size t size v n xs := fun t ht size n v xs h => h.kept G8.out (own_blk' h HB7.out ht)
            have OMw8 : Hid (w8.ownsRow w.heap.size 43 1 (.slice A7 (k + 1) c7) (k + 1) ((ps ++ [(⟨A5, n5, c5⟩ : Pc)]).flatMap encP)) := by unfold Hid; rw [List.flatMap_append, List.flatMap_singleton]; exact hnM 43 (by decide) _ _ _ _ own7
            have ONw8 := Lib.hid (hnM 3 (by decide) _ _ _ _ (own_kept ONwy.out OMwy.out (by decide) hg7))
            have HEw8 : Hid (Each (fun q l => w8.ownsRow w.heap.size 49 2 (pcV q) q.n (flat l) ∧ l.length = q.n ∧ In64 l) (ps ++ [(⟨A5, n5, c5⟩ : Pc)]) ((minsL p).take (k + 1))) := by
             unfold Hid; rw [HXM.out]
             refine (HEwy.out.imp fun q l h => ⟨hnM 49 (by decide) _ _ _ _ (own_kept h.1 OMwy.out (by decide) hg7), h.2⟩).snoc ⟨hnM 49 (by decide) _ _ _ _ (own_kept HOWy.out OMwy.out (by decide) hg7), HLN.out, HI6.out⟩
            have HL8 : Hid (Blk w8 lb 30 [.int .i64 p.lm.rest, .int .i64 p.lm.week, .int .i64 p.lm.nf, .int .i64 p.lm.nt, .int .i64 p.lm.mn]) := HL7.out.kept G8.out (fun e => by injection e with e; have := HLF.out; omega)
            have HXw8 : Hid (Blk w8 pb 32 (planC p)) := (HXwy.out.kept hg7 (own_blk OMwy.out HXwy.out (by decide))).kept G8.out (fun e => by injection e with e; have := HRP.out; have := HFR.out; omega)
            have HZw8 : Hid (Blk w8 rb 99 zeroL) := (HZwy.out.kept hg7 (own_blk OMwy.out HZwy.out (by decide))).kept G8.out (fun e => by injection e with e; have := HFR.out; omega)
            have HRw8 : Hid (Grew w w8) := (HRwy.out.grown hg7 (fun j hj => (OMwy.out.lt j hj).1)).grown G8.out (fun j hj => by injection hj with hj; have := HRBG.out; have := HFR.out; omega)
            clear hnw hnM own7 hg7 hat7 HB7 c7' f7 OMwy ONwy HBwy HXwy HZwy HRwy HEwy BI G8
            clear cB hwy HLy HL7 HOWy
            obtain ⟨A9, hA9⟩ : ∃ a, a = A7 := ⟨_, rfl⟩
            obtain ⟨c9, hc9⟩ : ∃ a, a = c7 := ⟨_, rfl⟩
            rw [← hA9, ← hc9] at HBw8 OMw8
            clear hA9 hc9
            obtain ⟨wz, hwz⟩ : ∃ y, y = w8.alloc (.cells #[.int .i64 (winT ⟨p.zb, p.ch⟩ xa xb p.lm.nf p.lm.nt)] 3) := ⟨_, rfl⟩
            have gy : Grew w8 wz := by rw [hwz]; exact (Grew.refl w8).alloc _
            have BI : Hid (Sl wz 1 (some ⟨w8.heap.size, 0, none⟩) 1 1 ([winT ⟨p.zb, p.ch⟩ xa xb p.lm.nf p.lm.nt].map iv)) := by unfold Hid; rw [hwz]; exact builtS (w := w8) (t := 3) 1 1 #[.int .i64 (winT ⟨p.zb, p.ch⟩ xa xb p.lm.nf p.lm.nt)] _ rfl rfl (by decide)
            have OMwz := Lib.hid (own_grew OMw8.out gy)
            have ONwz := Lib.hid (own_grew ONw8.out gy)
            have HBwz := Lib.hid (HBw8.out.grew gy)
            have HXwz := Lib.hid (HXw8.out.grew gy)
            have HZwz := Lib.hid (HZw8.out.grew gy)
            have HRwz := Lib.hid (HRw8.out.trans gy)
            have HEwz := Lib.hid (HEw8.out.imp (S := fun q l => wz.ownsRow w.heap.size 49 2 (pcV q) q.n (flat l) ∧ l.length = q.n ∧ In64 l) fun q l h => ⟨own_grew h.1 gy, h.2⟩)
            have HLz := Lib.hid (HL8.out.grew gy)
            have cB : w8.cell? ⟨fb, 11, none⟩ = some (.slice NA k Nc) := HBw8.out.cell rfl
            clear gy OMw8 ONw8 HBw8 HXw8 HZw8 HRw8 HEw8 HL8
            go_upto_region 15 with (at_builtin; rw [← hwz]; refine wpList_append_sl _ rfl (.tmp 97) (.tmp 99) 38 rfl w.heap.size 3 i3 (.int .i64 0) 1 8 Tryz.underlying38 hi3 hz3 hs3 hb3 rfl (by decide) (.slice NA k Nc) k _ rfl ONwz.out (some ⟨w8.heap.size, 0, none⟩) 1 1 _ rfl BI.out (iv_one _) (by unfold maxLen; omega) (by omega) HRwz.out.le ?_; intro v7 w7 own7 hg7 hat7; obtain ⟨A7, c7, rfl⟩ := own_form own7; have HB7 := Lib.hid (HBwz.out.kept hg7 (own_blk ONwz.out HBwz.out (by decide))); have c7' := HB7.out.cell (i := 11) (v := .slice NA k Nc) rfl; have f7 := HB7.out.frozen 11)
            have HL7 := Lib.hid (HLz.out.kept hg7 (fun e => by
             have h1 := own_blk ONwz.out HLz.out (by decide)
             exact h1 e))
            obtain ⟨w9, hnw⟩ : ∃ y, y = w7.setCell ⟨fb, 11, none⟩ (.slice A7 (k + 1) c7) := ⟨_, rfl⟩
            rw [← hnw]
            have G8 := Lib.hid (grown_set w7 fb 11 (.slice A7 (k + 1) c7))
            rw [← hnw] at G8
            have HBw9 : Hid (Blk w9 fb 99 (npC p ⟨A9, k + 1, c9⟩ ⟨A7, k + 1, c7⟩ 0)) := by unfold Hid; rw [hnw]; exact HB7.out.set 11 _
            have hnM : ∀ (t : TypeId), t ≠ 99 → ∀ (size n : Nat) (v : Value) (xs : List Value), w7.ownsRow w.heap.size t size v n xs → w9.ownsRow w.heap.size t size v n xs := fun t ht size n v xs h => h.kept G8.out (own_blk' h HB7.out ht)
            have ONw9 : Hid (w9.ownsRow w.heap.size 3 1 (.slice A7 (k + 1) c7) (k + 1) (((nightL p).take (k + 1)).map iv)) := by unfold Hid; rw [HXN.out, List.map_append]; exact hnM 3 (by decide) _ _ _ _ own7
            have OMw9 := Lib.hid (hnM 43 (by decide) _ _ _ _ (own_kept OMwz.out ONwz.out (by decide) hg7))
            have HEw9 := Lib.hid (HEwz.out.imp (S := fun q l => w9.ownsRow w.heap.size 49 2 (pcV q) q.n (flat l) ∧ l.length = q.n ∧ In64 l) fun q l h => ⟨hnM 49 (by decide) _ _ _ _ (own_kept h.1 ONwz.out (by decide) hg7), h.2⟩)
            have HL9 : Hid (Blk w9 lb 30 [.int .i64 p.lm.rest, .int .i64 p.lm.week, .int .i64 p.lm.nf, .int .i64 p.lm.nt, .int .i64 p.lm.mn]) := HL7.out.kept G8.out (fun e => by injection e with e; have := HLF.out; omega)
            have HXw9 : Hid (Blk w9 pb 32 (planC p)) := (HXwz.out.kept hg7 (own_blk ONwz.out HXwz.out (by decide))).kept G8.out (fun e => by injection e with e; have := HRP.out; have := HFR.out; omega)
            have HZw9 : Hid (Blk w9 rb 99 zeroL) := (HZwz.out.kept hg7 (own_blk ONwz.out HZwz.out (by decide))).kept G8.out (fun e => by injection e with e; have := HFR.out; omega)
            have HRw9 : Hid (Grew w w9) := (HRwz.out.grown hg7 (fun j hj => (ONwz.out.lt j hj).1)).grown G8.out (fun j hj => by injection hj with hj; have := HRBG.out; have := HFR.out; omega)
            clear hnw hnM own7 hg7 hat7 HB7 c7' f7 OMwz ONwz HBwz HXwz HZwz HRwz HEwz BI G8
            clear cB hwz HLz HL7
            have HDA2 : Hid ((p.ds.take (k + 1)).all (dOk p.z) = true) := by unfold Hid; rw [HXD.out, List.all_append, HDA.out]; simp only [List.all_cons, List.all_nil, HDT.out]; rfl
            go_wp2_with fail
            go_roundw
            case rel => exact ⟨k + 1, _, A9, A7, c9, c7, by omega, by go_num, HBw9, OMw9, ONw9, HEw9, HXw9, HZw9, HL9, HDA2, HRw9⟩
            case measure => simp [intOf]; omega
           ·rw [hd2, Bool.and_false] at HDB
            have HE2 : Hid (planB p = false) := by
             have h1 : p.ds.all (dOk p.z) = false := List.all_eq_false.2 ⟨⟨xa, xb, xs⟩, HMEM.out, by rw [HDB.out]; simp⟩
             unfold Hid planB; rw [h1]; simp
            have HZ4 := Lib.hid (HZwa.out.grew g4)
            have HR4 := Lib.hid (HRwa.out.trans g4)
            clear OMwa ONwa HBwa HXwa HZwa HRwa HEwa HLa XA g4 hd1 hd2
            go_wp2_with (refine wpList_store_row rfl 99 (.tmp 2) (.tmp 80) rfl rb zero13 rfl rfl 99 _ HZ4.out size99 rfl (by simp [zero13, zeroL, Value.oneCell']) ?_)
            refine bodyPost_ret (results_np rfl _ _ rb _ rfl (setRow_heap w4 rb _ zero13 99 (0, 0) HZ4.out) rfl) rfl ?_
            exact .inr ⟨HE2.out, rfl, grew_setRow HR4.out HRBG.out _⟩
           ·rw [hd1, Bool.false_and] at HDB
            have HE2 : Hid (planB p = false) := by
             have h1 : p.ds.all (dOk p.z) = false := List.all_eq_false.2 ⟨⟨xa, xb, xs⟩, HMEM.out, by rw [HDB.out]; simp⟩
             unfold Hid planB; rw [h1]; simp
            have HZ4 := Lib.hid (HZwa.out.grew g4)
            have HR4 := Lib.hid (HRwa.out.trans g4)
            clear OMwa ONwa HBwa HXwa HZwa HRwa HEwa HLa XA g4 hd1
            go_wp2_with (refine wpList_store_row rfl 99 (.tmp 2) (.tmp 80) rfl rb zero13 rfl rfl 99 _ HZ4.out size99 rfl (by simp [zero13, zeroL, Value.oneCell']) ?_)
            refine bodyPost_ret (results_np rfl _ _ rb _ rfl (setRow_heap w4 rb _ zero13 99 (0, 0) HZ4.out) rfl) rfl ?_
            exact .inr ⟨HE2.out, rfl, grew_setRow HR4.out HRBG.out _⟩
          ·obtain rfl : k = p.dn := by omega
           have HE2 : Hid (Each (fun q l => wr.ownsRow w.heap.size 49 2 (pcV q) q.n (flat l) ∧ l.length = q.n ∧ In64 l) ps (minsL p)) := by
            have := HEwr.out
            rw [List.take_of_length_le (by unfold minsL; rw [List.length_map, HDL.out]; exact Nat.le_refl _)] at this; exact this
           have ON2 : Hid (wr.ownsRow w.heap.size 3 1 (.slice NA p.dn Nc) p.dn ((nightL p).map iv)) := by
            have := ONwr.out
            rw [List.take_of_length_le (by unfold nightL; rw [List.length_map, HDL.out]; exact Nat.le_refl _)] at this; exact this
           have HDA2 : Hid (p.ds.all (dOk p.z) = true) := by
            have := HDA.out
            rw [List.take_of_length_le (by rw [HDL.out]; exact Nat.le_refl _)] at this; exact this
           have c4 : wr.cell? ⟨pb, 4, none⟩ = some (.slice p.W p.wn p.wc) := HXwr.out.cell rfl
           clear HEwr ONwr HDA HLL hlt hk
           go_wp2_with fail
           clear c4
           go_loopw [106] (fun i y => ∃ k : Nat, k ≤ p.wn ∧ i = .int .i64 k ∧
            Hid (Blk y fb 99 (npC p ⟨MA, p.dn, Mc⟩ ⟨NA, p.dn, Nc⟩ (cheapest (envP p) k))) ∧
            Hid (y.ownsRow w.heap.size 43 1 (.slice MA p.dn Mc) p.dn (ps.flatMap encP)) ∧
            Hid (y.ownsRow w.heap.size 3 1 (.slice NA p.dn Nc) p.dn ((nightL p).map iv)) ∧
            Hid (Each (fun q l => y.ownsRow w.heap.size 49 2 (pcV q) q.n (flat l) ∧ l.length = q.n ∧ In64 l) ps (minsL p)) ∧
            Hid (Blk y pb 32 (planC p)) ∧ Hid (Blk y rb 99 zeroL) ∧ Hid ((p.ws.take k).all wOk = true) ∧ Hid (Grew w y)) (fun i _ => p.wn - (intOf i).toNat)
           case atStart => exact ⟨0, Nat.zero_le _, rfl, HBwr.out, OMwr.out, ON2.out, HE2.out, HXwr.out, HZwr.out, rfl, HRwr.out⟩
           case round =>
            clear HBwr OMwr ON2 HE2 HXwr HZwr HRwr
            obtain ⟨k, hk, rfl, HBwr, OMwr, ONwr, HEwr, HXwr, HZwr, HWA, HRwr⟩ := hrel
            by_cases hlt : k < p.wn
            ·obtain ⟨b, o, x, hA, hx, ⟨c0, c1, c2, c3, c4⟩, hsp, _⟩ := (HP.out.grew HRwr.out).ws.at_ hlt
             have HXD : Hid (p.ws.take (k + 1) = p.ws.take k ++ [x]) := by unfold Hid; rw [List.take_add_one, hx]; rfl
             have HMEM := Lib.hid (List.mem_of_getElem? hx)
             have HXW : Hid ((envP p).wage k = x.wg) := wage_envP hx
             have HSP := Lib.hid hsp
             have cW : wr.cell? ⟨pb, 4, none⟩ = some (.slice p.W p.wn p.wc) := HXwr.out.cell rfl
             rw [hA] at cW
             obtain ⟨tw, htw⟩ : ∃ t, wOk x = t := ⟨_, rfl⟩
             have HTW := Lib.hid htw
             clear hx hsp htw
             obtain ⟨xn, xsk, xmi, xwg, xA, xn', xc, xaw⟩ := x
             simp only at c0 c1 c2 c3 c4 HXW
             have e1 : (0 : Int) ≤ (k : Int) := by omega
             have e2 : (k : Int) < (p.wn : Int) := by omega
             obtain ⟨wa, hwa⟩ : ∃ y, y = wr.alloc (.cells #[.string xn, .int .i64 xsk, .bool xmi, .int .i64 xwg, .slice xA xn' xc] 56) := ⟨_, rfl⟩
             obtain ⟨ba, hba⟩ : ∃ z, z = wr.heap.size := ⟨_, rfl⟩
             have XA : Hid (Blk wa ba 56 [.string xn, .int .i64 xsk, .bool xmi, .int .i64 xwg, .slice xA xn' xc]) := by unfold Hid; rw [hwa, hba]; exact Blk.new wr 56 [.string xn, .int .i64 xsk, .bool xmi, .int .i64 xwg, .slice xA xn' xc]
             have ga : Grew wr wa := by rw [hwa]; exact (Grew.refl wr).alloc _
             rw [hA]
             go_upto_region 19 with (fail)
             rw [← hwa, ← hba]
             clear hwa hba c0 c1 c2 c3 c4 cW hA
             have OMwa := Lib.hid (own_grew OMwr.out ga)
             have ONwa := Lib.hid (own_grew ONwr.out ga)
             have HBwa := Lib.hid (HBwr.out.grew ga)
             have HXwa := Lib.hid (HXwr.out.grew ga)
             have HZwa := Lib.hid (HZwr.out.grew ga)
             have HRwa := Lib.hid (HRwr.out.trans ga)
             have HEwa := Lib.hid (HEwr.out.imp (S := fun q l => wa.ownsRow w.heap.size 49 2 (pcV q) q.n (flat l) ∧ l.length = q.n ∧ In64 l) fun q l h => ⟨own_grew h.1 ga, h.2⟩)
             have HSPa : Hid (Spans wa xA xn' xc xaw) := HSP.out.grew ga
             clear OMwr ONwr HBwr HXwr HZwr HRwr HEwr HSP ga
             have u0 : wa.cell? ⟨ba, 0, none⟩ = some (.string xn) := XA.out.cell rfl
             have u1 : wa.cell? ⟨ba, 1, none⟩ = some (.int .i64 xsk) := XA.out.cell rfl
             have u2 : wa.cell? ⟨ba, 2, none⟩ = some (.bool xmi) := XA.out.cell rfl
             have u3 : wa.cell? ⟨ba, 3, none⟩ = some (.int .i64 xwg) := XA.out.cell rfl
             have u4 : wa.cell? ⟨ba, 4, none⟩ = some (.slice xA xn' xc) := XA.out.cell rfl
             go_wp2_with fail
             refine (worker89 ⟨xn, xsk, xmi, xwg, xA, xn', xc, xaw⟩ tw wa HSPa.out HTW.out).mono ?_
             rintro r w5 ⟨rfl, g5⟩
             clear u0 u1 u2 u3 u4
             have OMw5 := Lib.hid (own_grew OMwa.out g5)
             have ONw5 := Lib.hid (own_grew ONwa.out g5)
             have HBw5 := Lib.hid (HBwa.out.grew g5)
             have HXw5 := Lib.hid (HXwa.out.grew g5)
             have HZw5 := Lib.hid (HZwa.out.grew g5)
             have HRw5 := Lib.hid (HRwa.out.trans g5)
             have HEw5 := Lib.hid (HEwa.out.imp (S := fun q l => w5.ownsRow w.heap.size 49 2 (pcV q) q.n (flat l) ∧ l.length = q.n ∧ In64 l) fun q l h => ⟨own_grew h.1 g5, h.2⟩)
             have d3 : w5.cell? ⟨ba, 3, none⟩ = some (.int .i64 xwg) := (XA.out.grew g5).cell rfl
             clear OMwa ONwa HBwa HXwa HZwa HRwa HEwa HSPa XA g5
             cases tw with
             | false =>
              have HE2 : Hid (planB p = false) := by
               have h1 : p.ws.all wOk = false := List.all_eq_false.2 ⟨_, HMEM.out, by rw [HTW.out]; simp⟩
               unfold Hid planB; rw [h1]; simp
              go_wp2_with (refine wpList_store_row rfl 99 (.tmp 2) (.tmp 114) rfl rb zero13 rfl rfl 99 _ HZw5.out size99 rfl (by simp [zero13, zeroL, Value.oneCell']) ?_)
              refine bodyPost_ret (results_np rfl _ _ rb _ rfl (setRow_heap w5 rb _ zero13 99 (0, 0) HZw5.out) rfl) rfl ?_
              exact .inr ⟨HE2.out, rfl, grew_setRow HRw5.out HRBG.out _⟩
             | true =>
              have HWA2 : Hid ((p.ws.take (k + 1)).all wOk = true) := by unfold Hid; rw [HXD.out, List.all_append, HWA.out]; simp only [List.all_cons, List.all_nil, HTW.out]; rfl
              have hcs := cheap_step (envP p) k
              rw [HXW.out] at hcs
              obtain ⟨ch, hch⟩ : ∃ z, cheapest (envP p) k = z := ⟨_, rfl⟩
              have HCH := Lib.hid hch
              rw [hch] at hcs HBw5
              clear hch
              have c12 := HBw5.out.cell (i := 12) (v := .int .i64 ch) rfl
              have f12 := HBw5.out.frozen 12
              by_cases h0 : k = 0
              ·have q5 : (k == 0) = true := by simpa using h0
               have q6 : ((k : Int) == 0) = true := by simp; omega
               have HCS : Hid (cheapest (envP p) (k + 1) = xwg) := by unfold Hid; rw [hcs, if_pos (.inl h0)]
               clear h0 hcs
               obtain ⟨w8, hw8⟩ : ∃ y, y = w5.setCell ⟨fb, 12, none⟩ (.int .i64 xwg) := ⟨_, rfl⟩
               go_upto_region 23 with (fail)
               rw [← hw8]
               have G8 := Lib.hid (grown_set w5 fb 12 (.int .i64 xwg))
               rw [← hw8] at G8
               have HB8 : Hid (Blk w8 fb 99 (npC p ⟨MA, p.dn, Mc⟩ ⟨NA, p.dn, Nc⟩ (cheapest (envP p) (k + 1)))) := by unfold Hid; rw [HCS.out, hw8]; exact HBw5.out.set 12 _
               have hnM : ∀ (t : TypeId), t ≠ 99 → ∀ (size n : Nat) (v : Value) (xs : List Value), w5.ownsRow w.heap.size t size v n xs → w8.ownsRow w.heap.size t size v n xs := fun t ht size n v xs h => h.kept G8.out (own_blk' h HBw5.out ht)
               have OM8 := Lib.hid (hnM 43 (by decide) _ _ _ _ OMw5.out)
               have ON8 := Lib.hid (hnM 3 (by decide) _ _ _ _ ONw5.out)
               have HE8 := Lib.hid (HEw5.out.imp (S := fun q l => w8.ownsRow w.heap.size 49 2 (pcV q) q.n (flat l) ∧ l.length = q.n ∧ In64 l) fun q l h => ⟨hnM 49 (by decide) _ _ _ _ h.1, h.2⟩)
               have HX8 : Hid (Blk w8 pb 32 (planC p)) := HXw5.out.kept G8.out (fun e => by injection e with e; have := HRP.out; have := HFR.out; omega)
               have HZ8 : Hid (Blk w8 rb 99 zeroL) := HZw5.out.kept G8.out (fun e => by injection e with e; have := HFR.out; omega)
               have HR8 : Hid (Grew w w8) := HRw5.out.grown G8.out (fun j hj => by injection hj with hj; have := HRBG.out; have := HFR.out; omega)
               clear hw8 hnM G8 c12 f12 d3 OMw5 ONw5 HBw5 HXw5 HZw5 HRw5 HEw5
               go_wp2_with fail
               go_roundw
               case rel => exact ⟨k + 1, by omega, by go_num, HB8, OM8, ON8, HE8, HX8, HZ8, HWA2, HR8⟩
               case measure => simp [intOf]; omega
              ·have q5 : (k == 0) = false := by simpa using h0
               have q6 : ((k : Int) == 0) = false := by simp; omega
               by_cases h1 : xwg < ch
               ·have q7 : decide (xwg < ch) = true := decide_eq_true h1
                have HCS : Hid (cheapest (envP p) (k + 1) = xwg) := by unfold Hid; rw [hcs, if_pos (.inr h1)]
                clear h0 hcs
                obtain ⟨w8, hw8⟩ : ∃ y, y = w5.setCell ⟨fb, 12, none⟩ (.int .i64 xwg) := ⟨_, rfl⟩
                go_upto_region 23 with (fail)
                rw [← hw8]
                have G8 := Lib.hid (grown_set w5 fb 12 (.int .i64 xwg))
                rw [← hw8] at G8
                have HB8 : Hid (Blk w8 fb 99 (npC p ⟨MA, p.dn, Mc⟩ ⟨NA, p.dn, Nc⟩ (cheapest (envP p) (k + 1)))) := by unfold Hid; rw [HCS.out, hw8]; exact HBw5.out.set 12 _
                have hnM : ∀ (t : TypeId), t ≠ 99 → ∀ (size n : Nat) (v : Value) (xs : List Value), w5.ownsRow w.heap.size t size v n xs → w8.ownsRow w.heap.size t size v n xs := fun t ht size n v xs h => h.kept G8.out (own_blk' h HBw5.out ht)
                have OM8 := Lib.hid (hnM 43 (by decide) _ _ _ _ OMw5.out)
                have ON8 := Lib.hid (hnM 3 (by decide) _ _ _ _ ONw5.out)
                have HE8 := Lib.hid (HEw5.out.imp (S := fun q l => w8.ownsRow w.heap.size 49 2 (pcV q) q.n (flat l) ∧ l.length = q.n ∧ In64 l) fun q l h => ⟨hnM 49 (by decide) _ _ _ _ h.1, h.2⟩)
                have HX8 : Hid (Blk w8 pb 32 (planC p)) := HXw5.out.kept G8.out (fun e => by injection e with e; have := HRP.out; have := HFR.out; omega)
                have HZ8 : Hid (Blk w8 rb 99 zeroL) := HZw5.out.kept G8.out (fun e => by injection e with e; have := HFR.out; omega)
                have HR8 : Hid (Grew w w8) := HRw5.out.grown G8.out (fun j hj => by injection hj with hj; have := HRBG.out; have := HFR.out; omega)
                clear hw8 hnM G8 c12 f12 d3 OMw5 ONw5 HBw5 HXw5 HZw5 HRw5 HEw5
                go_wp2_with fail
                go_roundw
                case rel => exact ⟨k + 1, by omega, by go_num, HB8, OM8, ON8, HE8, HX8, HZ8, HWA2, HR8⟩
                case measure => simp [intOf]; omega
               ·have q7 : decide (xwg < ch) = false := decide_eq_false h1
                have HCS : Hid (cheapest (envP p) (k + 1) = ch) := by unfold Hid; rw [hcs, if_neg (fun h => h.elim h0 h1)]
                clear h0 hcs
                rw [← HCS.out] at HBw5
                go_wp2_with fail
                clear c12 f12 d3
                go_roundw
                case rel => exact ⟨k + 1, by omega, by go_num, HBw5, OMw5, ONw5, HEw5, HXw5, HZw5, HWA2, HRw5⟩
                case measure => simp [intOf]; omega
            ·obtain rfl : k = p.wn := by omega
             have HWA2 : Hid (p.ws.all wOk = true) := by
              have := HWA.out
              rw [List.take_of_length_le (by rw [HWL.out]; exact Nat.le_refl _)] at this; exact this
             have HOK : Hid (planB p = true) := by
              unfold Hid planB
              rw [show p.z = ⟨p.zb, p.ch⟩ from rfl, HTZ.out, decide_eq_true HD24.out, decide_eq_true HW12.out, HWA2.out, HLM.out]
              have h1 := HDA2.out
              rw [show p.z = ⟨p.zb, p.ch⟩ from rfl] at h1
              rw [h1]; rfl
             have n0 : wr.cell? ⟨fb, 0, none⟩ = some (.string p.nm) := HBwr.out.cell rfl
             have n1 : wr.cell? ⟨fb, 1, none⟩ = some (.int .i64 p.zb) := HBwr.out.cell rfl
             have n2 : wr.cell? ⟨fb, 2, none⟩ = some (.slice p.C p.cn p.cc) := HBwr.out.cell rfl
             have n3 : wr.cell? ⟨fb, 3, none⟩ = some (.slice p.D p.dn p.dc) := HBwr.out.cell rfl
             have n4 : wr.cell? ⟨fb, 4, none⟩ = some (.slice p.W p.wn p.wc) := HBwr.out.cell rfl
             have n5 : wr.cell? ⟨fb, 5, none⟩ = some (.int .i64 p.lm.rest) := HBwr.out.cell rfl
             have n6 : wr.cell? ⟨fb, 6, none⟩ = some (.int .i64 p.lm.week) := HBwr.out.cell rfl
             have n7 : wr.cell? ⟨fb, 7, none⟩ = some (.int .i64 p.lm.nf) := HBwr.out.cell rfl
             have n8 : wr.cell? ⟨fb, 8, none⟩ = some (.int .i64 p.lm.nt) := HBwr.out.cell rfl
             have n9 : wr.cell? ⟨fb, 9, none⟩ = some (.int .i64 p.lm.mn) := HBwr.out.cell rfl
             have n10 : wr.cell? ⟨fb, 10, none⟩ = some (.slice MA p.dn Mc) := HBwr.out.cell rfl
             have n11 : wr.cell? ⟨fb, 11, none⟩ = some (.slice NA p.dn Nc) := HBwr.out.cell rfl
             have n12 : wr.cell? ⟨fb, 12, none⟩ = some (.int .i64 (cheapest (envP p) p.wn)) := HBwr.out.cell rfl
             go_wp2_with (refine wpList_store_row rfl 99 (.tmp 2) (.tmp 128) rfl rb #[.string p.nm, .int .i64 p.zb, .slice p.C p.cn p.cc, .slice p.D p.dn p.dc, .slice p.W p.wn p.wc, .int .i64 p.lm.rest, .int .i64 p.lm.week, .int .i64 p.lm.nf, .int .i64 p.lm.nt, .int .i64 p.lm.mn, .slice MA p.dn Mc, .slice NA p.dn Nc, .int .i64 (cheapest (envP p) p.wn)] rfl rfl 99 _ HZwr.out size99 rfl (by simp [Value.oneCell']) ?_)
             refine bodyPost_ret (results_np rfl _ _ rb _ rfl (setRow_heap wr rb _ #[.string p.nm, .int .i64 p.zb, .slice p.C p.cn p.cc, .slice p.D p.dn p.dc, .slice p.W p.wn p.wc, .int .i64 p.lm.rest, .int .i64 p.lm.week, .int .i64 p.lm.nf, .int .i64 p.lm.nt, .int .i64 p.lm.mn, .slice MA p.dn Mc, .slice NA p.dn Nc, .int .i64 (cheapest (envP p) p.wn)] 99 (0, 0) HZwr.out) rfl) rfl ?_
             have G8 := grown_setRow wr rb #[.string p.nm, .int .i64 p.zb, .slice p.C p.cn p.cc, .slice p.D p.dn p.dc, .slice p.W p.wn p.wc, .int .i64 p.lm.rest, .int .i64 p.lm.week, .int .i64 p.lm.nf, .int .i64 p.lm.nt, .int .i64 p.lm.mn, .slice MA p.dn Mc, .slice NA p.dn Nc, .int .i64 (cheapest (envP p) p.wn)]
             have GR := grew_setRow HRwr.out HRBG.out #[.string p.nm, .int .i64 p.zb, .slice p.C p.cn p.cc, .slice p.D p.dn p.dc, .slice p.W p.wn p.wc, .int .i64 p.lm.rest, .int .i64 p.lm.week, .int .i64 p.lm.nf, .int .i64 p.lm.nt, .int .i64 p.lm.mn, .slice MA p.dn Mc, .slice NA p.dn Nc, .int .i64 (cheapest (envP p) p.wn)]
             have hk : ∀ {t : TypeId}, t ≠ 99 → ∀ {size n : Nat} {v : Value} {xs : List Value}, wr.ownsRow w.heap.size t size v n xs → (wr.setRow rb #[.string p.nm, .int .i64 p.zb, .slice p.C p.cn p.cc, .slice p.D p.dn p.dc, .slice p.W p.wn p.wc, .int .i64 p.lm.rest, .int .i64 p.lm.week, .int .i64 p.lm.nf, .int .i64 p.lm.nt, .int .i64 p.lm.mn, .slice MA p.dn Mc, .slice NA p.dn Nc, .int .i64 (cheapest (envP p) p.wn)]).ownsRow w.heap.size t size v n xs := fun ht _ _ _ _ h => h.kept G8 (own_blk' h HZwr.out ht)
             refine .inl ⟨HOK.out, ⟨MA, p.dn, Mc⟩, ⟨NA, p.dn, Nc⟩, ps, rfl, ⟨HP.out.grew GR, rfl, ?_, ?_, ?_⟩, GR⟩
             ·exact Recs.own (by rw [HEwr.out.1]; unfold minsL; rw [List.length_map]; exact HDL.out) (hk (by decide) OMwr.out)
             ·exact HEwr.out.imp fun q l h => ⟨h.2.1, Sl.own (hk (by decide) h.1), h.2.2⟩
             ·exact Ints.own (by unfold nightL; rw [List.length_map]; exact HDL.out) (hk (by decide) ONwr.out)
   ·have q3 : decide ((p.wn : Int) ≤ 12) = false := decide_eq_false (by omega)
    have q4 : ¬ ((p.wn : Int) ≤ 12) := by omega
    have HE : Hid (planB p = false) := by unfold Hid planB; rw [decide_eq_false hw]; simp
    go_wp2_with (refine wpList_store_row rfl 99 (.tmp 2) (.tmp 63) rfl rb zero13 rfl rfl 99 _ RB1.out size99 rfl (by simp [zero13, zeroL, Value.oneCell']) ?_)
    refine bodyPost_ret (results_np rfl _ _ rb _ rfl (setRow_heap w1 rb _ zero13 99 (0, 0) RB1.out) rfl) rfl ?_
    exact .inr ⟨HE.out, rfl, grew_setRow HG1.out HRBG.out _⟩
  ·have q1 : decide ((p.dn : Int) ≤ 24) = false := decide_eq_false (by omega)
   have q2 : ¬ ((p.dn : Int) ≤ 24) := by omega
   have HE : Hid (planB p = false) := by unfold Hid planB; rw [decide_eq_false hd]; simp
   go_wp2_with (refine wpList_store_row rfl 99 (.tmp 2) (.tmp 63) rfl rb zero13 rfl rfl 99 _ RB1.out size99 rfl (by simp [zero13, zeroL, Value.oneCell']) ?_)
   refine bodyPost_ret (results_np rfl _ _ rb _ rfl (setRow_heap w1 rb _ zero13 99 (0, 0) RB1.out) rfl) rfl ?_
   exact .inr ⟨HE.out, rfl, grew_setRow HG1.out HRBG.out _⟩
end Go.Proofs.YtnnbibmmofnkdaaGreat
