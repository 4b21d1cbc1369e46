/-
 The fixed plan of the base steps' law.
-/
import Derived.Test.YtnnbibmmofnkdaaGreatBasD
import Derived.Test.YtnnbibmmofnkdaaGreatPrpH
import Derived.Test.YtnnbibmmofnkdaaGreatStq
import Derived.Test.YtnnbibmmofnkdaaGreatTopA
namespace Go.Proofs.YtnnbibmmofnkdaaGreat
open Go.RowKit Go.Proofs WageMem WageReg WageRec WageSpan WageTop
/-- The fixed plan. -/
def p14 (b1 b2 : Nat) : Pl := ⟨⟨#[]⟩, 0, none, 0, 0, [], some ⟨b1, 0, none⟩, 2, 2, [⟨5000, 5480, 1⟩, ⟨5400, 5900, 1⟩], some ⟨b2, 0, none⟩, 2, 2, [⟨⟨#[97, 110, 110]⟩, 1, false, 1000, none, 0, 0, []⟩, ⟨⟨#[98, 111, 98]⟩, 0, false, 900, none, 0, 0, []⟩], ⟨0, 20000, 0, 0, 600⟩⟩
theorem size32p : (Tryz.prog.info? 32).map (·.size) = some 10 := by kernel_rfl
theorem sort34 : sortI [3, 4] = [3, 4] := by
 unfold sortI
 exact List.mergeSort_of_pairwise (by decide)
theorem keys14 : (cntM (partsG ⟨0, []⟩ 5400 5900)).map Prod.fst = [3, 4] := by kernel_rfl
theorem mins14 (b1 b2 : Nat) : minsF (p14 b1 b2) 1 = [(3, 360), (4, 140)] := by
 show splitL ⟨0, []⟩ 5400 5900 = _
 unfold splitL
 rw [keys14, sort34]
 kernel_rfl
theorem ok14 (b1 b2 : Nat) : planB (p14 b1 b2) = true := by
 have h1 : dOk ⟨0, []⟩ ⟨5400, 5900, 1⟩ = true := by
  unfold dOk splitB
  simp only
  rw [keys14, sort34]
  kernel_rfl
 have h0 : dOk ⟨0, []⟩ ⟨5000, 5480, 1⟩ = true := by kernel_rfl
 show (znB ⟨0, []⟩ && (decide ((2 : Nat) ≤ 24) && (decide ((2 : Nat) ≤ 12) && ((dOk ⟨0, []⟩ ⟨5000, 5480, 1⟩ && (dOk ⟨0, []⟩ ⟨5400, 5900, 1⟩ && true)) && ((p14 b1 b2).ws.all wOk && lOk (p14 b1 b2).lm))))) = true
 rw [h0, h1]
 kernel_rfl
theorem v14a (b1 b2 : Nat) : violP (p14 b1 b2) 0 [0] = false := by kernel_rfl
theorem v14b (b1 b2 : Nat) : violP (p14 b1 b2) 0 [1] = false := by
 have hw : wkV (p14 b1 b2) [1] = false := by
  have hd : dayM (p14 b1 b2) [1] = [(3, 360), (4, 140)] := by
   unfold dayM
   rw [List.flatMap_cons, List.flatMap_nil, List.append_nil, mins14]
   kernel_rfl
  unfold wkV
  rw [hd]
  show (([(3, 360), (4, 140)] : List (Int × Int)).any fun q => decide ((20000 : Int) < weekS [(3, 360), (4, 140)] q.1 7)) = false
  decide +kernel
 have hs : skV (p14 b1 b2) ⟨⟨#[97, 110, 110]⟩, 1, false, 1000, none, 0, 0, []⟩ [1] = false := by kernel_rfl
 have ha : awV (p14 b1 b2) ⟨⟨#[97, 110, 110]⟩, 1, false, 1000, none, 0, 0, []⟩ [1] = false := by kernel_rfl
 have hr : rsV (p14 b1 b2) [1] = false := by kernel_rfl
 show (skV (p14 b1 b2) ⟨⟨#[97, 110, 110]⟩, 1, false, 1000, none, 0, 0, []⟩ [1] || (awV (p14 b1 b2) ⟨⟨#[97, 110, 110]⟩, 1, false, 1000, none, 0, 0, []⟩ [1] || (rsV (p14 b1 b2) [1] || (wkV (p14 b1 b2) [1] || ((false && ngV (p14 b1 b2) [1]) || ((false && mnV (p14 b1 b2) [1]) || false)))))) = false
 rw [hs, ha, hr, hw]
 rfl
theorem v14c (b1 b2 : Nat) : violP (p14 b1 b2) 1 [0] = true := by kernel_rfl
theorem v14d (b1 b2 : Nat) : violP (p14 b1 b2) 1 [1] = true := by kernel_rfl
theorem v14e (b1 b2 : Nat) : violP (p14 b1 b2) 0 [0, 1] = true := by kernel_rfl
def log14 : List Stp := [someS 2 0, someS 2 1, oneS 0 0 1, oneS 1 0 1, bad1 1 0, bad1 1 1, bad2 0 0 1]
def cl14 : List (List Li) := [[⟨0, 0, true⟩, ⟨0, 1, true⟩], [⟨1, 0, true⟩, ⟨1, 1, true⟩], [⟨0, 0, false⟩, ⟨0, 1, false⟩], [⟨1, 0, false⟩, ⟨1, 1, false⟩], [⟨0, 1, false⟩], [⟨1, 1, false⟩], [⟨0, 0, false⟩, ⟨1, 0, false⟩]]
theorem log14_cl : log14.map (·.cl) = cl14 := by kernel_rfl
theorem al14 (b1 b2 : Nat) : aloneB (envP (p14 b1 b2)) 0 0 = false ∧ aloneB (envP (p14 b1 b2)) 0 1 = false ∧ aloneB (envP (p14 b1 b2)) 1 0 = true ∧ aloneB (envP (p14 b1 b2)) 1 1 = true ∧ pairB (envP (p14 b1 b2)) 0 0 1 = true ∧ pairB (envP (p14 b1 b2)) 1 0 1 = false := by
 have a : aloneB (envP (p14 b1 b2)) 0 0 = false := v14a b1 b2
 have b : aloneB (envP (p14 b1 b2)) 0 1 = false := v14b b1 b2
 have c : aloneB (envP (p14 b1 b2)) 1 0 = true := v14c b1 b2
 have d : aloneB (envP (p14 b1 b2)) 1 1 = true := v14d b1 b2
 have e : (envP (p14 b1 b2)).viol 0 (idxF 0 (asg2 (envP (p14 b1 b2)).nD 0 0 1) (0 : Nat)) = true := v14e b1 b2
 refine ⟨a, b, c, d, ?_, ?_⟩
 ·unfold pairB; rw [a, b, e]; rfl
 ·unfold pairB; rw [c]; rfl
theorem base14 (b1 b2 : Nat) : baseF (envP (p14 b1 b2)) = log14 := by
 obtain ⟨a, b, c, d, e, f⟩ := al14 b1 b2
 unfold baseF aloneA aloneA1 pairA pairA1 pairA2
 rw [show (envP (p14 b1 b2)).nD = 2 from rfl, show (envP (p14 b1 b2)).nW = 2 from rfl, show List.range 2 = [0, 1] from rfl]
 simp only [List.flatMap_cons, List.flatMap_nil, List.append_nil, a, b, c, d, show (2 : Nat) - (0 + 1) = 1 from rfl, show (2 : Nat) - (1 + 1) = 0 from rfl, show List.range' (0 + 1) 1 = [1] from rfl, show ∀ k, List.range' k 0 = [] from fun _ => rfl, e, f, if_true, Bool.false_eq_true, if_false]
 rfl
theorem fol14 (c1 c2 : Nat) : folB (p14 c1 c2) 0 log14 6 = true := by
 rw [folB_at (s := bad2 0 0 1) rfl]
 exact base_follows (IsBase.bad2 (E := envP (p14 c1 c2)) (w := 0) (f := 0) (s := 1) (show 0 < 2 by decide) (by decide) (show 1 < 2 by decide) (v14e c1 c2)) 0 _ _
theorem chk14 (c1 c2 : Nat) : chkB (p14 c1 c2) 0 log14 = false := by
 unfold chkB checkB
 rw [show lastNil log14 = false from rfl, Bool.and_false, Bool.and_false, Bool.and_false]
theorem results_pl {fn : Func} {p : Tmp} (h : fn.results = #[.cell p 32]) (tmps : Array Value) (w : World) (b : Nat) (cs : Array Value) (hp : tmps.getD p undef = .pointer (some ⟨b, 0, none⟩)) (hb : w.heap[b]? = some (.cells cs 32 (0, 0))) (hs : cs.size = 10) :
  (results fn tmps).run Tryz.prog w = .ok (.agg cs) w :=
 results_cell_row h tmps w b 32 cs (0, 0) _ hp hb Tryz.underlying32 rfl (by rw [hs]; exact size32p)
def RetP14 (w : World) (e : Ending) (w' : World) : Prop := ∃ b1 b2, e = .returned (planV (p14 b1 b2)) ∧ PlanAt w' (p14 b1 b2) ∧ Grew w w'
set_option maxRecDepth 100000 in
set_option maxHeartbeats 4000000 in
theorem plan50 (w : World) : Calls Tryz.prog 50 #[] w (RetP14 w) := by
 obtain ⟨w0, hw0⟩ : ∃ y, y = w.alloc (.cells #[.string ⟨#[]⟩, .int .i64 0, .slice none 0 0, .slice none 0 0, .slice none 0 0, .int .i64 0, .int .i64 0, .int .i64 0, .int .i64 0, .int .i64 0] 32) := ⟨_, rfl⟩
 obtain ⟨rb, hrb⟩ : ∃ z, z = w.heap.size := ⟨_, rfl⟩
 have g0 : Grew w w0 := by rw [hw0]; exact (Grew.refl w).alloc _
 have X0 : Hid (Blk w0 rb 32 [.string ⟨#[]⟩, .int .i64 0, .slice none 0 0, .slice none 0 0, .slice none 0 0, .int .i64 0, .int .i64 0, .int .i64 0, .int .i64 0, .int .i64 0]) := by unfold Hid; rw [hw0, hrb]; exact Blk.new w 32 _
 go_enter Tryz.func50, Tryz.ntmps50
 go_upto_region 1 with (fail)
 rw [← hw0, ← hrb]
 have HRB : Hid (w.heap.size ≤ rb) := by unfold Hid; omega
 have HG0 := Lib.hid g0
 clear hw0 hrb g0
 obtain ⟨w1, hw1⟩ : ∃ y, y = w0.alloc (.cells #[.int .i64 5000, .int .i64 5480, .int .i64 1, .int .i64 5400, .int .i64 5900, .int .i64 1] 47) := ⟨_, rfl⟩
 obtain ⟨b1, hb1⟩ : ∃ z, z = w0.heap.size := ⟨_, rfl⟩
 have hs1 : w1.heap.size = b1 + 1 := by rw [hw1, hb1]; simp
 obtain ⟨w2, hw2⟩ : ∃ y, y = w1.alloc (.cells #[.string ⟨#[97, 110, 110]⟩, .int .i64 1, .bool false, .int .i64 1000, .slice none 0 0, .string ⟨#[98, 111, 98]⟩, .int .i64 0, .bool false, .int .i64 900, .slice none 0 0] 56) := ⟨_, rfl⟩
 obtain ⟨b2, hb2⟩ : ∃ z, z = b1 + 1 := ⟨_, rfl⟩
 have g1 : Grew w0 w1 := by rw [hw1]; exact (Grew.refl w0).alloc _
 have g2 : Grew w1 w2 := by rw [hw2]; exact (Grew.refl w1).alloc _
 have R1 : Recs encD 3 w1 (some ⟨b1, 0, none⟩) 2 2 [⟨5000, 5480, 1⟩, ⟨5400, 5900, 1⟩] := by rw [hw1, hb1]; exact Recs.built encD_ok #[.int .i64 5000, .int .i64 5480, .int .i64 1, .int .i64 5400, .int .i64 5900, .int .i64 1] rfl rfl (by decide)
 have R2 : Recs encW 5 w2 (some ⟨b2, 0, none⟩) 2 2 (p14 b1 b2).ws := by rw [hw2, hb2, ← hs1]; exact Recs.built encW_ok #[.string ⟨#[97, 110, 110]⟩, .int .i64 1, .bool false, .int .i64 1000, .slice none 0 0, .string ⟨#[98, 111, 98]⟩, .int .i64 0, .bool false, .int .i64 900, .slice none 0 0] rfl rfl (by decide)
 have X2 := Lib.hid ((X0.out.grew g1).grew g2)
 have g3 : Grew w (w2.setRow rb #[.string ⟨#[]⟩, .int .i64 0, .slice none 0 0, .slice (some ⟨b1, 0, none⟩) 2 2, .slice (some ⟨b2, 0, none⟩) 2 2, .int .i64 0, .int .i64 20000, .int .i64 0, .int .i64 0, .int .i64 600]) := grew_setRow (HG0.out.trans (g1.trans g2)) HRB.out _
 have hge : ∀ {n c : Nat} {size : Nat} {bb : Nat} {xs : List Value}, bb ≠ rb → Sl w2 size (some ⟨bb, 0, none⟩) n c xs → Sl (w2.setRow rb #[.string ⟨#[]⟩, .int .i64 0, .slice none 0 0, .slice (some ⟨b1, 0, none⟩) 2 2, .slice (some ⟨b2, 0, none⟩) 2 2, .int .i64 0, .int .i64 20000, .int .i64 0, .int .i64 0, .int .i64 600]) size (some ⟨bb, 0, none⟩) n c xs := fun {n c size bb xs} hne h => KeepB.sl h (KeepD.grown (G := fun j => j ≠ rb) (grown_setRow w2 rb _) (fun hh => hh rfl)).b (fun b o e _ => by injection e with e; injection e with e _; exact e ▸ hne)
 have hrb0 : rb < w0.heap.size := X0.out.lt
 have hp : PlanAt (w2.setRow rb #[.string ⟨#[]⟩, .int .i64 0, .slice none 0 0, .slice (some ⟨b1, 0, none⟩) 2 2, .slice (some ⟨b2, 0, none⟩) 2 2, .int .i64 0, .int .i64 20000, .int .i64 0, .int .i64 0, .int .i64 600]) (p14 b1 b2) := by
  have i0 : in64 0 := by unfold in64; omega
  refine ⟨Spans.none_, ⟨⟨R1.1, hge (by omega) (R1.grew g2).2⟩, fun x hx => ?_⟩, ⟨⟨R2.1, hge (by omega) R2.2⟩, fun x hx => ?_⟩, i0, ⟨i0, by unfold in64; show (-9223372036854775808 : Int) ≤ 20000 ∧ (20000 : Int) ≤ 9223372036854775807; omega, i0, i0, by unfold in64; show (-9223372036854775808 : Int) ≤ 600 ∧ (600 : Int) ≤ 9223372036854775807; omega⟩⟩
  ·simp only [p14, List.mem_cons, List.not_mem_nil, or_false] at hx
   rcases hx with rfl | rfl <;> (unfold in64; simp only; omega)
  ·simp only [p14, List.mem_cons, List.not_mem_nil, or_false] at hx
   rcases hx with rfl | rfl <;> exact ⟨Spans.none_, by unfold in64; simp only; omega, by unfold in64; simp only; omega⟩
 have HP := Lib.hid hp
 have HG := Lib.hid g3
 clear R1 R2 hp g1 g2 g3 hge hrb0 X0 HG0
 go_wp2_with (rw [← hw1, ← hw2, ← hb1, ← hb2]; refine wpList_store_row rfl 32 (.tmp 0) (.tmp 8) rfl rb #[.string ⟨#[]⟩, .int .i64 0, .slice none 0 0, .slice (some ⟨b1, 0, none⟩) 2 2, .slice (some ⟨b2, 0, none⟩) 2 2, .int .i64 0, .int .i64 20000, .int .i64 0, .int .i64 0, .int .i64 600] rfl rfl 32 _ X2.out size32p rfl (by simp [Value.oneCell']) ?_)
 have HB := setRow_heap w2 rb _ #[.string ⟨#[]⟩, .int .i64 0, .slice none 0 0, .slice (some ⟨b1, 0, none⟩) 2 2, .slice (some ⟨b2, 0, none⟩) 2 2, .int .i64 0, .int .i64 20000, .int .i64 0, .int .i64 0, .int .i64 600] 32 (0, 0) X2.out
 refine bodyPost_ret (results_pl rfl _ _ rb _ rfl HB rfl) rfl ?_
 exact ⟨b1, b2, rfl, HP.out, HG.out⟩
/-- The clauses of a log, as they have been gathered. -/
theorem ClsAt.of {y : World} {base : Nat} {A : Option Addr} {n c : Nat} {qs : List Qs} {log : List Stp} (ho : y.ownsRow base 69 1 (.slice A n c) n (qs.map (fun q => pcV q.cl))) (hq : qs.length = n) (hst : ∀ (i : Nat) q s, qs[i]? = some q → log[i]? = some s → StRd y q s) (hl : log.length = n) (hsm : ∀ s ∈ log, s.cl.length ≤ 1000) : ClsAt y A n (log.map (·.cl)) := by
 refine ⟨by rw [List.length_map]; exact hl, fun i hi => ?_⟩
 obtain ⟨q, hqi⟩ : ∃ q, qs[i]? = some q := ⟨_, List.getElem?_eq_getElem (by omega)⟩
 obtain ⟨s, hsi⟩ : ∃ s, log[i]? = some s := ⟨_, List.getElem?_eq_getElem (by omega)⟩
 have h1 := hst i q s hqi hsi
 obtain ⟨g, hA⟩ : ∃ g, A = some ⟨g, 0, none⟩ := by
  rcases ho.2 with ⟨e1, e2⟩ | ⟨g, cap, cur, e, _⟩
  ·omega
  ·injection e with e _ _
   exact ⟨g, e⟩
 subst hA
 have hc := ho.cellAt i (by omega)
 rw [List.getElem?_map, hqi] at hc
 refine ⟨g, 0, q.cl.A, q.cl.n, q.cl.c, rfl, by rw [Nat.zero_add]; exact hc, ?_, ?_⟩
 ·rw [List.getD_eq_getElem?_getD, List.getElem?_map, hsi]
  exact h1.cl
 ·rw [← h1.cl.1]
  exact hsm s (List.mem_of_getElem? hsi)
theorem base_small {E : Env} (hW : E.nW ≤ 12) : ∀ s ∈ baseF E, s.cl.length ≤ 1000 := fun s hs => by
 cases base_is hs with
 | some _ => unfold someS; simp only [List.length_map, List.length_range]; omega
 | one _ _ _ => exact (by decide : (2 : Nat) ≤ 1000)
 | bad1 _ _ _ => exact (by decide : (1 : Nat) ≤ 1000)
 | bad2 _ _ _ _ => exact (by decide : (2 : Nat) ≤ 1000)
set_option maxRecDepth 100000 in
set_option maxHeartbeats 16000000 in
theorem head22 (w : World) : Calls Tryz.prog 22 #[] w fun e w' => e = .returned (.bool true) ∧ Grew w w' := by
 obtain ⟨i9, hi9, hz0, hz1, hz2⟩ := info_parts info69
 go_enter Tryz.func22, Tryz.ntmps22
 go_wp2_with fail
 refine (plan50 w).mono ?_
 rintro r w1 ⟨b1, b2, rfl, hp1, g1⟩
 have HP1 := Lib.hid hp1
 have HG1 := Lib.hid g1
 clear hp1 g1
 go_wp2_with fail
 refine (base25 HP1.out (ok14 b1 b2) (show (2 : Nat) ≤ 7 by decide)).mono ?_
 rintro r w2 ⟨GA, n, gc, base, rfl, hlog, hln, _, g2⟩
 rw [base14] at hlog hln
 obtain rfl : n = 7 := hln.symm
 obtain ⟨qs, hrec, hql, hst⟩ := LgRd.of_log hlog rfl
 have HRC : Hid (Recs encQ 3 w2 GA 7 gc qs) := hrec
 have HST := Lib.hid hst
 have HQL : Hid (qs.length = 7) := hql
 have HLG : Hid (LgRd w2 GA 7 gc log14) := LgRd.of_log hlog rfl
 have HG2 := Lib.hid (HG1.out.trans g2)
 clear hlog hln hrec hql hst g2
 go_wp2_with fail
 go_loopw [2, 11] (fun v i y => ∃ (k c : Nat) (A : Option Addr), k ≤ 7 ∧ i = .int .i64 k ∧ v = .slice A k c ∧ Hid (y.ownsRow w2.heap.size 69 1 (.slice A k c) k ((qs.take k).map (fun q => pcV q.cl))) ∧ Hid (Grew w2 y)) (fun _ i _ => 7 - (intOf i).toNat)
 case atStart => exact ⟨0, 0, none, by omega, rfl, rfl, World.ownsRow_nil _ _ _ _, Grew.refl _⟩
 case round =>
  obtain ⟨k, c, A, hk, rfl, rfl, HO, HR⟩ := hrel
  by_cases hlt : k < 7
  ·obtain ⟨b, o, q, hA, hq, hr⟩ := (HRC.out.grew HR.out).at_ encQ_ok hlt
   have c0 := hr 0 _ rfl
   have c1 := hr 1 _ rfl
   have c2 := hr 2 _ rfl
   have HTK : Hid ((qs.take (k + 1)).map (fun q => pcV q.cl) = (qs.take k).map (fun q => pcV q.cl) ++ [pcV q.cl]) := by unfold Hid; rw [List.take_add_one, hq, Option.toList, List.map_append]; rfl
   obtain ⟨⟨QA, qn, qc⟩, qru, ⟨FA, fn, fc⟩⟩ := q
   replace c0 : wr.cell? ⟨b, o + k * 3, none⟩ = some (.slice QA qn qc) := c0
   replace c1 : wr.cell? ⟨b, o + k * 3 + 1, none⟩ = some (.int .i64 qru) := c1
   replace c2 : wr.cell? ⟨b, o + k * 3 + 2, none⟩ = some (.slice FA fn fc) := c2
   have e0 : decide ((k : Int) < 7) = true := decide_eq_true (by omega)
   have e1 : (0 : Int) ≤ (k : Int) := by omega
   have e2 : (k : Int) < 7 := by omega
   subst hA
   obtain ⟨wa, hwa⟩ : ∃ y, y = wr.alloc (.cells #[.slice QA qn qc, .int .i64 qru, .slice FA fn fc] 71) := ⟨_, rfl⟩
   obtain ⟨ba, hba⟩ : ∃ z, z = wr.heap.size := ⟨_, rfl⟩
   have HBA : Hid (Blk wa ba 71 [.slice QA qn qc, .int .i64 qru, .slice FA fn fc]) := by unfold Hid; rw [hwa, hba]; exact Blk.new wr 71 _
   have ga : Grew wr wa := by rw [hwa]; exact (Grew.refl wr).alloc _
   go_upto_region 6 with (fail)
   rw [← hwa, ← hba]
   clear hwa hba c0 c1 c2 hq hr e0
   obtain ⟨wy, hwy⟩ : ∃ y, y = wa.alloc (.cells #[.slice QA qn qc] 69) := ⟨_, rfl⟩
   have gy : Grew wr wy := by rw [hwy]; exact ga.alloc _
   have BV : Hid (Sl wy 1 (some ⟨wa.heap.size, 0, none⟩) 1 1 [.slice QA qn qc]) := by unfold Hid; rw [hwy]; exact builtS (w := wa) (t := 69) 1 1 #[.slice QA qn qc] _ rfl rfl (by decide)
   have HOy := Lib.hid (own_grew HO.out gy)
   have HRy := Lib.hid (HR.out.trans gy)
   have u0 : wa.cell? ⟨ba, 0, none⟩ = some (.slice QA qn qc) := HBA.out.cell rfl
   clear HO HR ga gy HBA
   go_upto_region 7 with (at_builtin; rw [← hwy]; refine wpList_append_sl _ rfl (.tmp 15) (.tmp 18) 68 rfl w2.heap.size 69 i9 (.slice none 0 0) 1 24 Tryz.underlying68 hi9 hz0 hz1 hz2 rfl (by decide) (.slice A k c) k _ rfl HOy.out (some ⟨wa.heap.size, 0, none⟩) 1 1 _ rfl BV.out (by intro u hu; rw [List.mem_singleton.1 hu]; rfl) (by unfold maxLen; omega) (by omega) HRy.out.le ?_; intro v7 w7 own7 hg7 hat7; obtain ⟨A7, c7, rfl⟩ := own_form own7)
   have HO7 : Hid (w7.ownsRow w2.heap.size 69 1 (.slice A7 (k + 1) c7) (k + 1) ((qs.take (k + 1)).map (fun q => pcV q.cl))) := by unfold Hid; rw [HTK.out]; exact own7
   have HR7 := Lib.hid (HRy.out.grown hg7 (fun j hj => (HOy.out.lt j hj).1))
   clear hwy own7 hg7 hat7 HOy HRy BV u0 HTK
   go_wp2_with fail
   go_roundw
   case rel => exact ⟨k + 1, c7, A7, by omega, by go_num, rfl, HO7, HR7⟩
   case measure => simp [intOf]; omega
  ·obtain rfl : k = 7 := by omega
   have HCL : Hid (ClsAt wr A 7 cl14) := by
    have h1 := HO.out
    rw [List.take_of_length_le (by rw [HQL.out]; exact Nat.le_refl _)] at h1
    rw [← log14_cl]
    exact ClsAt.of h1 HQL.out (fun i q s h1 h2 => (HST.out i q s h1 h2).grew HR.out) rfl (fun s hs => base_small (E := envP (p14 b1 b2)) (show (2 : Nat) ≤ 12 by decide) s (by rw [base14]; exact hs))
   have HGr := Lib.hid (HG2.out.trans HR.out)
   have HLr := Lib.hid (HLG.out.grew HR.out)
   clear HO HR HLG HRC HST
   go_wp2_with fail
   refine (unit27 HCL.out (by decide)).mono ?_
   rintro r w4 ⟨v, at_, rfl, hun, g4⟩
   have hat : 0 ≤ at_ := fix_unit hun
   have q1 : decide (at_ ≥ 0) = true := decide_eq_true hat
   have q2 : decide ((0 : Int) ≤ at_) = true := decide_eq_true hat
   have HG4 := Lib.hid (HGr.out.trans g4)
   have HL4 := Lib.hid (HLr.out.grew g4)
   clear hun hat g4 HGr HLr HCL
   go_wp2_with fail
   refine (plan50 w4).mono ?_
   rintro r w5 ⟨c1, c2, rfl, hp5, g5⟩
   have HP5 := Lib.hid hp5
   have HG5 := Lib.hid (HG4.out.trans g5)
   have HL5 := Lib.hid (HL4.out.grew g5)
   clear hp5 g5 HG4 HL4
   go_wp2_with fail
   refine (step26 (kk := 6) HP5.out (ok14 c1 c2) HL5.out (fun s hs => base_small (E := envP (p14 b1 b2)) (show (2 : Nat) ≤ 12 by decide) s (by rw [base14]; exact hs)) (by decide) (by decide) (fol14 c1 c2)).mono ?_
   rintro r w6 ⟨rfl, g6⟩
   have HG6 := Lib.hid (HG5.out.trans g6)
   have HL6 := Lib.hid (HL5.out.grew g6)
   clear g6 HG5 HL5 HP5
   go_wp2_with fail
   refine (plan50 w6).mono ?_
   rintro r w7 ⟨d1, d2, rfl, hp7, g7⟩
   have HP7 := Lib.hid hp7
   have HG7 := Lib.hid (HG6.out.trans g7)
   have HL7 := Lib.hid (HL6.out.grew g7)
   clear hp7 g7 HG6 HL6
   go_wp2_with fail
   refine (check17 HP7.out HL7.out (fun s hs => base_small (E := envP (p14 b1 b2)) (show (2 : Nat) ≤ 12 by decide) s (by rw [base14]; exact hs)) (chk14 d1 d2)).mono ?_
   rintro r w8 ⟨rfl, g8⟩
   have HG8 := Lib.hid (HG7.out.trans g8)
   clear g8 HG7 HL7 HP7
   go_wp2
   go_ret
   exact ⟨rfl, HG8.out⟩
end Go.Proofs.YtnnbibmmofnkdaaGreat
