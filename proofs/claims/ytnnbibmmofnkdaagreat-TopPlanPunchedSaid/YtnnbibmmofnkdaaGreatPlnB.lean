/-
 The planner: newSearch, burn, clean, clone, extend.
-/
import Derived.Test.YtnnbibmmofnkdaaGreatRosE
namespace Go.Proofs.YtnnbibmmofnkdaaGreat
open Go.RowKit Go.Proofs WageMem WageReg WageRec WageSpan WageTop
/-- The cells of a search. -/
def srC (p : Pl) (cb : Nat) (L : Value) (fuel : Int) (V : Value) (fd : Bool) (B : Value) (cost : Int) (G : Value) : List Value :=
 planC p ++ [.pointer (some ⟨cb, 0, none⟩), L, .int .i64 fuel, V, .bool fd, B, .int .i64 cost, G]
theorem viol_envP {p : Pl} {wk : Nat} {x : Wo} (h : p.ws[wk]? = some x) (ds : List Nat) : (envP p).viol wk ds = violW p x ds := by
 show violP p wk ds = _
 unfold violP; rw [h]
theorem burn76 {w : World} {sb cb : Nat} {p : Pl} {L V B G : Value} {fuel cost : Int} {fd t : Bool} (h : Blk w sb 94 (srC p cb L fuel V fd B cost G)) (hf : -1000000000 ≤ fuel ∧ fuel ≤ 1000000000) (ht : decide (1 ≤ fuel) = t) :
  Calls Tryz.prog 76 #[.pointer (some ⟨sb, 0, none⟩)] w fun r w' => r = .returned (.bool t) ∧ w' = w.setCell ⟨sb, 12, none⟩ (.int .i64 (fuel - 1)) := by
 have HB := Lib.hid h
 have HT := Lib.hid ht
 have c0 : w.cell? ⟨sb, 12, none⟩ = some (.int .i64 fuel) := h.cell rfl
 have f0 := h.frozen 12
 have e1 : IntKind.i64.wrap (fuel - 1) = fuel - 1 := IntWalk.i64_in _ (by omega)
 have hc : (w.setCell ⟨sb, 12, none⟩ (.int .i64 (fuel - 1))).cell? ⟨sb, 12, none⟩ = some (.int .i64 (fuel - 1)) := (h.set 12 _).cell rfl
 clear h ht
 go_enter Tryz.func76, Tryz.ntmps76
 go_wp2
 go_ret
 exact ⟨congrArg (fun b => Ending.returned (Value.bool b)) HT.out, rfl⟩
theorem clean_last {p : Pl} {pre : List Int} {n : Nat} {x : Int} {y : Wo} (hn : pre.length = n) (hx : pre[n - 1]? = some x) (h0 : 0 < n) (hy : p.ws[x.toNat]? = some y) : clean (envP p) pre = !violW p y (idxF 0 pre x) := by
 have h1 : lastW pre = x := by unfold lastW; rw [List.getLast?_eq_getElem?, hn, hx]; rfl
 unfold clean
 rw [h1, viol_envP hy]
 cases pre with
 | nil => simp at hn; omega
 | cons a l => rfl
set_option maxRecDepth 100000 in
theorem clean77 {w : World} {sb cb : Nat} {p : Pl} {L V B G : Value} {fuel cost : Int} {fd t : Bool} {A : Option Addr} {n c : Nat} {pre : List Int} (h : Blk w sb 94 (srC p cb L fuel V fd B cost G)) (ck : CkAt w cb p) (ok : planB p = true) (hi : Ints w A n c pre) (hn : n ≤ p.dn) (hr : ∀ x ∈ pre, 0 ≤ x ∧ x < p.wn) (ht : clean (envP p) pre = t) :
  Calls Tryz.prog 77 #[.pointer (some ⟨sb, 0, none⟩), .slice A n c] w fun r w' => r = .returned (.bool t) ∧ Grew w w' := by
 have HI := Lib.hid hi
 have HCK := Lib.hid ck
 have HT := Lib.hid ht
 have hnl : pre.length = n := hi.1
 have HNL := Lib.hid hnl
 have dn24 : p.dn ≤ 24 := by
  have := ok
  unfold planB at this
  simp only [Bool.and_eq_true, decide_eq_true_eq] at this
  exact this.2.1
 have c10 : w.cell? ⟨sb, 10, none⟩ = some (.pointer (some ⟨cb, 0, none⟩)) := h.cell rfl
 have hn01 : n = 0 ∨ 0 < n := by omega
 clear ht hi ck h hnl
 go_enter Tryz.func77, Tryz.ntmps77
 rcases hn01 with hn0 | hn0
 ·have HC : Hid (clean (envP p) pre = true) := by
   cases pre with
   | nil => rfl
   | cons a l => have := HNL.out; simp at this; omega
  have q1 : (n == 0) = true := by simpa using hn0
  have q2 : ((n : Int) == 0) = true := by simp; omega
  clear hn0 c10
  go_upto_region 1 with (fail)
  refine wp_region_seq (by kernel_rfl) Grew.refl (fun _ _ _ => Grew.trans) (fun _ _ _ _ _ h => h) (by kernel_rfl) ?_
  repeat (first
   | (refine TakeAll.pure (v := ?_) (by rfl) ?_ ?_; rotate_left; (intro w' g'; go_simp; first | done | with_reducible rfl); (simp only [Act.put, uzT, uz0, uz1]))
   | (refine TakeAll.skip (by rfl) ?_; (simp only [Act.put, uzT, uz0, uz1])))
  refine TakeAll.nil ?_
  intro w5 g5
  have G5 := (Grew.refl w).drew.trans g5
  go_wp2
  go_ret
  exact ⟨congrArg (fun b => Ending.returned (Value.bool b)) (HC.out.symm.trans HT.out), G5⟩
 ·obtain ⟨b, o, hA, hc⟩ := HI.out.at_ hn0
  obtain ⟨x, hx⟩ : ∃ x, pre[n - 1]? = some x := ⟨_, List.getElem?_eq_getElem (by rw [HNL.out]; omega)⟩
  have c0 := hc (n - 1) x hx
  obtain ⟨hx0, hx1⟩ := hr x (List.mem_of_getElem? hx)
  obtain ⟨wk, hwk⟩ : ∃ k : Nat, x = (k : Int) := ⟨x.toNat, by omega⟩
  subst hwk
  have hwl : wk < p.ws.length := by rw [HCK.out.1.ws.len]; omega
  obtain ⟨y, hy⟩ : ∃ y, p.ws[wk]? = some y := ⟨_, List.getElem?_eq_getElem hwl⟩
  have HY := Lib.hid hy
  have HCL : Hid (t = !violW p y (idxF 0 pre wk)) := by unfold Hid; rw [← HT.out]; exact clean_last HNL.out hx hn0 (by rw [Int.toNat_natCast]; exact hy)
  have q1 : (n == 0) = false := by simp; omega
  have q2 : ((n : Int) == 0) = false := by simp; omega
  have m1 : IntKind.i64.wrap ((n : Int) - 1) = (n : Int) - 1 := IntWalk.i64_in _ (by omega)
  have m2 : ((n : Int) - 1).toNat = n - 1 := by omega
  have m3 : (0 : Int) ≤ (n : Int) - 1 := by omega
  have m3' : (1 : Int) ≤ (n : Int) := by omega
  have m4 : (n : Int) - 1 < (n : Int) := by omega
  have HIA : Hid (Ints w (some ⟨b, o, none⟩) n c pre) := by rw [← hA]; exact HI
  subst hA
  have hA : ∀ w', Grew w.drew w' → w'.cell? ⟨sb, 10, none⟩ = some (.pointer (some ⟨cb, 0, none⟩)) ∧ w'.cell? ⟨b, o + (n - 1), none⟩ = some (.int .i64 (wk : Int)) := fun w' g' => by
   have gg := (Grew.refl w).drew.trans g'
   exact ⟨gg.cell c10, gg.cell c0⟩
  have HA := Lib.hid hA
  clear hA c10 c0 hc hx hr hy hwl HT HI
  go_upto_region 1 with (fail)
  refine wp_region_G (by kernel_rfl) Grew.refl 20 ?_
  refine wpAnyG_takes Grew.refl (fun _ _ _ => Grew.trans) (fun _ _ _ _ _ h => h) [0, 1, 2, 3, 4, 5, 6, 7, 8, 9, 10, 11, 12, 13, 14] (fuel' := 5) (by kernel_rfl) (by kernel_rfl) (by simp only [pickOps, ugT, ug0, ug1]; rfl) ?_
  repeat (first
   | (refine TakeAll.pure (v := ?_) (by rfl) ?_ ?_; rotate_left; (intro w' g'; obtain ⟨z0, z1⟩ := HA.out w' g'; go_simp; first | done | with_reducible rfl); (simp only [Act.put, uzT, uz0, uz1]))
   | (refine TakeAll.skip (by rfl) ?_; (simp only [Act.put, uzT, uz0, uz1])))
  refine TakeAll.nil ?_
  refine wpAnyG_stepW (i := 15) (by kernel_rfl) (fuel' := 4) (by kernel_rfl) (by simp only [pickOps, ugT, ug0, ug1]; rfl) (by rfl) ?_
  intro w3 g3 K hK
  have G3 := (Grew.refl w).drew.trans g3
  refine wp_call 43 _ (by go_simp; first | done | rfl) ?_
  refine (worker43 (HCK.out.grew G3) ok HY.out (HIA.out.grew G3) hn).mono ?_
  rintro r w4 ⟨A4, n4, c4, vs, rfl, _, hz, _, g4⟩
  refine ⟨_, rfl, hK _ _ g4 ?_⟩
  clear hK K g3 HA
  simp only [Act.put, uzT, uz0, uz1]
  by_cases h4 : n4 = 0
  ·have r1 : (n4 == 0) = true := by simpa using h4
   have r2 : ((n4 : Int) == 0) = true := by simp; omega
   have HV : Hid (violW p y (idxF 0 pre wk) = false) := hz.1 h4
   clear hz h4
   refine wpAnyG_takes Grew.refl (fun _ _ _ => Grew.trans) (fun _ _ _ _ _ h => h) [16, 17, 18, 19] (fuel' := 0) (by kernel_rfl) (by kernel_rfl) (by simp only [pickOps, ugT, ug0, ug1]; rfl) ?_
   repeat (first
    | (refine TakeAll.pure (v := ?_) (by rfl) ?_ ?_; rotate_left; (intro w' g'; go_simp; first | done | with_reducible rfl); (simp only [Act.put, uzT, uz0, uz1]))
    | (refine TakeAll.skip (by rfl) ?_; (simp only [Act.put, uzT, uz0, uz1])))
   refine TakeAll.nil ?_
   refine wpAnyG_done (by kernel_rfl) ?_ _
   intro w5 g5
   have GF := G3.trans (g4.trans g5)
   go_wp2
   go_ret
   refine ⟨congrArg (fun b => Ending.returned (Value.bool b)) ?_, GF⟩
   rw [HCL.out]; rw [HV.out]; rfl
  ·have r1 : (n4 == 0) = false := by simpa using h4
   have r2 : ((n4 : Int) == 0) = false := by simp; omega
   have HV : Hid (violW p y (idxF 0 pre wk) = true) := by
    cases hv : violW p y (idxF 0 pre wk) with
    | false => exact absurd (hz.2 hv) h4
    | true => rfl
   clear hz h4
   refine wpAnyG_takes Grew.refl (fun _ _ _ => Grew.trans) (fun _ _ _ _ _ h => h) [16, 17, 18, 19] (fuel' := 0) (by kernel_rfl) (by kernel_rfl) (by simp only [pickOps, ugT, ug0, ug1]; rfl) ?_
   repeat (first
    | (refine TakeAll.pure (v := ?_) (by rfl) ?_ ?_; rotate_left; (intro w' g'; go_simp; first | done | with_reducible rfl); (simp only [Act.put, uzT, uz0, uz1]))
    | (refine TakeAll.skip (by rfl) ?_; (simp only [Act.put, uzT, uz0, uz1])))
   refine TakeAll.nil ?_
   refine wpAnyG_done (by kernel_rfl) ?_ _
   intro w5 g5
   have GF := G3.trans (g4.trans g5)
   go_wp2
   go_ret
   refine ⟨congrArg (fun b => Ending.returned (Value.bool b)) ?_, GF⟩
   rw [HCL.out]; rw [HV.out]; rfl
theorem empty38 (x : World) : (Instr.buildSlice 38 0 #[]).run Tryz.prog x = .ok (.slice (some ⟨x.heap.size, 0, none⟩) 0 0) (x.alloc (.cells #[] 3)) := by kernel_rfl
theorem eqnil38 (W : World) (b o n c : Nat) : (binOp .eql 38 (.slice (some ⟨b, o, none⟩) n c) (.slice none 0 0)).run Tryz.prog W = .ok (.bool false) W := by kernel_rfl
set_option maxRecDepth 100000 in
theorem clone78 {w : World} {b o n c : Nat} {zs : List Int} (h : Ints w (some ⟨b, o, none⟩) n c zs) (hn : n ≤ 1000000) :
  Calls Tryz.prog 78 #[.slice (some ⟨b, o, none⟩) n c] w fun r w' => ∃ A' c', r = .returned (.slice A' n c') ∧ w'.ownsRow w.heap.size 3 1 (.slice A' n c') n (zs.map iv) ∧ Grew w w' := by
 obtain ⟨i3, hi3, hz3, hs3, hb3⟩ := info_parts info3
 have HI := Lib.hid h
 clear h
 obtain ⟨w1, hw1⟩ : ∃ y, y = w.alloc (.cells #[] 3) := ⟨_, rfl⟩
 have g1 : Grew w w1 := by rw [hw1]; exact (Grew.refl w).alloc _
 have OE : Hid (w1.ownsRow w.heap.size 3 1 (.slice (some ⟨w.heap.size, 0, none⟩) 0 0) 0 []) := by unfold Hid; rw [hw1]; exact World.ownsRow_lit (base := w.heap.size) (e := 3) (size := 1) w #[] 0 (Nat.le_refl _) (by decide) rfl
 have hE := fun x => empty38 x
 have hN := fun W => eqnil38 W b o n c
 go_enter Tryz.func78, Tryz.ntmps78
 go_wp2_with (at_builtin; rw [← hw1]; refine wpList_append_sl _ rfl (.tmp 5) (.tmp 6) 38 rfl w.heap.size 3 i3 (.int .i64 0) 1 8 Tryz.underlying38 hi3 hz3 hs3 hb3 rfl (by decide) (.slice (some ⟨w.heap.size, 0, none⟩) 0 0) 0 _ rfl OE.out (some ⟨b, o, none⟩) n c _ rfl (HI.out.grew g1).2 (iv_one _) (by unfold maxLen; omega) (by omega) g1.le ?_; intro v7 w7 own7 hg7 hat7; obtain ⟨A7, c7, rfl⟩ := own_form own7)
 rw [Nat.zero_add, List.nil_append] at own7
 go_ret
 exact ⟨A7, c7, rfl, own7, g1.grown hg7 (fun j hj => (OE.out.lt j hj).1)⟩
/-- The least wages of the last duties, as they are laid from the end on. -/
def lstF (E : Env) (n d : Nat) : List Value := (List.range (n + 1)).map fun i => iv (if d ≤ i then leastR E (n - i) else 0)
theorem lstF_at {E : Env} {n d i : Nat} (h : i ≤ n) : (lstF E n d)[i]? = some (iv (if d ≤ i then leastR E (n - i) else 0)) := by
 unfold lstF
 rw [List.getElem?_map, List.getElem?_range (by omega)]; rfl
theorem lstF_set {E : Env} {n d : Nat} (h : d < n) : (lstF E n (d + 1)).set d (iv (leastR E (n - d))) = lstF E n d := by
 apply List.ext_getElem?
 intro i
 by_cases hi : i ≤ n
 ·by_cases hd : i = d
  ·subst hd
   rw [List.getElem?_set_self (by unfold lstF; simp; omega), lstF_at hi, if_pos (Nat.le_refl _)]
  ·rw [List.getElem?_set_ne (fun h => hd h.symm), lstF_at hi, lstF_at hi]
   by_cases h1 : d + 1 ≤ i
   ·rw [if_pos h1, if_pos (by omega)]
   ·rw [if_neg h1, if_neg (by omega)]
 ·rw [List.getElem?_eq_none (by rw [List.length_set]; unfold lstF; simp; omega), List.getElem?_eq_none (by unfold lstF; simp; omega)]
theorem lstF_zero (E : Env) (n : Nat) : (List.replicate (n + 1) (Value.int .i64 0)) = lstF E n n := by
 apply List.ext_getElem?
 intro i
 by_cases hi : i ≤ n
 ·rw [lstF_at hi, List.getElem?_replicate, if_pos (by omega)]
  by_cases h : n ≤ i
  ·rw [if_pos h, show n - i = 0 by omega]; rfl
  ·rw [if_neg h]; rfl
 ·rw [List.getElem?_eq_none (by simp; omega), List.getElem?_eq_none (by unfold lstF; simp; omega)]
theorem cheap_step (E : Env) (k : Nat) : cheapest E (k + 1) = if k = 0 ∨ E.wage k < cheapest E k then E.wage k else cheapest E k := by
 cases k with
 | zero => rfl
 | succ k =>
  show (if E.wage (k + 1) < cheapest E (k + 1) then E.wage (k + 1) else cheapest E (k + 1)) = _
  by_cases h : E.wage (k + 1) < cheapest E (k + 1)
  ·rw [if_pos h, if_pos (.inr h)]
  ·rw [if_neg h, if_neg (fun h1 => h1.elim (fun h2 => by omega) h)]
theorem cheap_bd {E : Env} {W : Int} (hW : 0 ≤ W) (h : ∀ k, 0 ≤ E.wage k ∧ E.wage k ≤ W) : ∀ k, 0 ≤ cheapest E k ∧ cheapest E k ≤ W
 | 0 => ⟨Int.le_refl _, hW⟩
 | k + 1 => by
  have h1 := cheap_bd hW h k
  have h2 := h k
  rw [cheap_step]
  split <;> assumption
/-- Bounds of a plan's numbers. -/
structure EnvBd (E : Env) : Prop where
 wage : ∀ k, 0 ≤ E.wage k ∧ E.wage k ≤ 1000000
 dur : ∀ k, 0 ≤ E.dur k ∧ E.dur k ≤ 1440
 nD : E.nD ≤ 24
theorem mul_bd {a b : Int} (ha : 0 ≤ a ∧ a ≤ 1000000) (hb : 0 ≤ b ∧ b ≤ 1440) : 0 ≤ a * b ∧ a * b ≤ 1440000000 := by
 refine ⟨Int.mul_nonneg ha.1 hb.1, ?_⟩
 have h1 : a * b ≤ 1000000 * b := Int.mul_le_mul_of_nonneg_right ha.2 hb.1
 have h2 : (1000000 : Int) * b ≤ 1000000 * 1440 := Int.mul_le_mul_of_nonneg_left hb.2 (by decide)
 omega
theorem least_bd {E : Env} (h : EnvBd E) : ∀ k, 0 ≤ leastR E k ∧ leastR E k ≤ k * 1440000000
 | 0 => ⟨Int.le_refl _, by show (0 : Int) ≤ _; omega⟩
 | k + 1 => by
  have h1 := least_bd h k
  have h2 := mul_bd (cheap_bd (by decide) h.wage E.nW) (h.dur (E.nD - (k + 1)))
  show 0 ≤ leastR E k + cheapest E E.nW * E.dur (E.nD - (k + 1)) ∧ leastR E k + cheapest E E.nW * E.dur (E.nD - (k + 1)) ≤ _
  constructor
  ·omega
  ·have := h1.2
   have : ((k + 1 : Nat) : Int) * 1440000000 = (k : Int) * 1440000000 + 1440000000 := by rw [Int.natCast_add, Int.add_mul]; rfl
   omega
theorem env_bd {w : World} {p : Pl} (hp : PlanAt w p) (ok : planB p = true) : EnvBd (envP p) := by
 have h0 := ok
 unfold planB at h0
 simp only [Bool.and_eq_true, decide_eq_true_eq] at h0
 refine ⟨fun k => ?_, fun k => ?_, h0.2.1⟩
 ·show 0 ≤ (match p.ws[k]? with | some x => x.wg | none => 0) ∧ (match p.ws[k]? with | some x => x.wg | none => 0) ≤ 1000000
  cases hk : p.ws[k]? with
  | none => exact ⟨Int.le_refl _, by decide⟩
  | some x =>
   have h1 := List.all_eq_true.1 h0.2.2.2.2.1 x (List.mem_of_getElem? hk)
   unfold wOk at h1
   simp only [Bool.and_eq_true, decide_eq_true_eq] at h1
   exact h1.2.1
 ·show 0 ≤ (p.du k).b - (p.du k).a ∧ (p.du k).b - (p.du k).a ≤ 1440
  by_cases hk : k < p.dn
  ·have h1 := durOk_of ok hp hk
   unfold dOk durOk at h1
   simp only [Bool.and_eq_true, decide_eq_true_eq] at h1
   omega
  ·have : p.du k = ⟨0, 0, 0⟩ := by unfold Pl.du; rw [List.getD_eq_getElem?_getD, List.getElem?_eq_none (by rw [hp.ds.len]; omega)]; rfl
   rw [this]
   exact ⟨by decide, by decide⟩
theorem wage_envP {p : Pl} {k : Nat} {x : Wo} (h : p.ws[k]? = some x) : (envP p).wage k = x.wg := by
 show (match p.ws[k]? with | some x => x.wg | none => 0) = _
 rw [h]
theorem make_ints (n m : Nat) (hn : m ≤ 1000) (hnm : n ≤ m) (w : World) : ∃ w', (Instr.makeSlice 38 (.int .i64 (n : Int)) (.int .i64 (m : Int))).run Tryz.prog w = .ok (.slice (some ⟨w.heap.size, 0, none⟩) n m) w' ∧ w' = w.alloc (.cells (List.replicate m (Value.int .i64 0)).toArray 3) := by
 obtain ⟨i0, hi, hz0, hz1, hz2⟩ := info_parts info3
 have hr := run_make (P := Tryz.prog) w 38 3 i0 _ Tryz.underlying38 hi hz0 .i64 .i64 n m (by omega) (by omega) (by rw [hz2]; omega) (by omega)
 simp only [Int.toNat_natCast, hz1, Nat.mul_one] at hr
 refine ⟨_, hr, ?_⟩
 have h1 : madeCells (Value.int .i64 0).cells m = (List.replicate m (Value.int .i64 0)).toArray := by
  apply Array.toList_inj.1
  exact toList_madeCells_one (.int .i64 0) m
 rw [h1]
theorem ch74 {w : World} {wb tb : Nat} {p : Pl} {d : Nat} {wage z : Int} (hp : PlanAt w p) (hd : d < p.dn) (hw : w.cell? ⟨wb, 0, none⟩ = some (.int .i64 wage)) (htb : w.cell? ⟨tb, 3, none⟩ = some (.slice p.D p.dn p.dc)) (hb : 0 ≤ wage ∧ wage ≤ 1000000) (hdu : 0 ≤ (p.du d).b - (p.du d).a ∧ (p.du d).b - (p.du d).a ≤ 1440) (hz : wage * ((p.du d).b - (p.du d).a) = z) :
  Calls Tryz.prog 74 #[.int .i64 (d : Int), .pointer (some ⟨wb, 0, none⟩), .pointer (some ⟨tb, 0, none⟩)] w fun r w' => r = .returned (.int .i64 z) ∧ Grew w w' := by
 obtain ⟨b, o, x, hA, hx, ⟨c0, c1, c2⟩, _⟩ := hp.ds.at_ hd
 have hdx := du_at hx
 rw [hdx] at hdu hz
 obtain ⟨xa, xb, xs⟩ := x
 simp only at hdu hz c0 c1 c2
 have hm := mul_bd hb hdu
 have HM := Lib.hid hm
 have HZ := Lib.hid hz
 have HW : Hid (wrap64 (xb - xa) = xb - xa) := wrap64_id (by omega) (by omega)
 have dn9 := hp.ds.le
 have e1 : (0 : Int) ≤ (d : Int) := by omega
 have e2 : (d : Int) < (p.dn : Int) := by omega
 have e3 : IntKind.i64.wrap (wage * (xb - xa)) = z := by rw [hz]; exact IntWalk.i64_in _ (by rw [← hz]; omega)
 rw [hA] at htb
 have hC : ∀ w', Grew w.drew w' → (w'.cell? ⟨wb, 0, none⟩ = some (.int .i64 wage) ∧ w'.cell? ⟨tb, 3, none⟩ = some (.slice (some ⟨b, o, none⟩) p.dn p.dc)) ∧ (w'.cell? ⟨b, o + d * 3, none⟩ = some (.int .i64 xa) ∧ w'.cell? ⟨b, o + d * 3 + 1, none⟩ = some (.int .i64 xb) ∧ w'.cell? ⟨b, o + d * 3 + 2, none⟩ = some (.int .i64 xs)) := fun w' g' => by
  have gg := (Grew.refl w).drew.trans g'
  exact ⟨⟨gg.cell hw, gg.cell htb⟩, gg.cell c0, gg.cell c1, gg.cell c2⟩
 have HC := Lib.hid hC
 clear hC hw htb c0 c1 c2 hx hA hdx hp hz hm
 go_enter Tryz.func74, Tryz.ntmps74
 go_upto_region 1 with (fail)
 refine wp_region_seq (by kernel_rfl) Grew.refl (fun _ _ _ => Grew.trans) (fun _ _ _ _ _ h => h) (by kernel_rfl) ?_
 repeat (first
  | (refine TakeAll.pure (v := ?_) (by rfl) ?_ ?_; rotate_left; (intro w' g'; obtain ⟨⟨q0, q1⟩, q2, q3, q4⟩ := HC.out w' g'; go_simp; first | done | with_reducible rfl); (simp only [Act.put, uzT, uz0, uz1]))
  | (refine TakeAll.skip (by rfl) ?_; (simp only [Act.put, uzT, uz0, uz1])))
 refine TakeAll.call (by rfl) 75 _ (fun _ => by go_simp; first | done | rfl) (fun w' g' => minutes75 xa xb xs _ w' HW.out) ?_
 simp only [Act.put, uzT, uz0, uz1]
 repeat (first
  | (refine TakeAll.pure (v := ?_) (by rfl) ?_ ?_; rotate_left; (intro w' g'; obtain ⟨⟨q0, q1⟩, q2, q3, q4⟩ := HC.out w' g'; go_simp; first | done | with_reducible rfl); (simp only [Act.put, uzT, uz0, uz1]))
  | (refine TakeAll.skip (by rfl) ?_; (simp only [Act.put, uzT, uz0, uz1])))
 refine TakeAll.nil ?_
 intro w5 g5
 have G5 := (Grew.refl w).drew.trans g5
 go_wp2
 go_ret
 exact ⟨rfl, G5⟩
/-- What newSearch returns. -/
def RetNs (p : Pl) (cb : Nat) (fuel : Int) (w : World) (r : Ending) (w' : World) : Prop :=
 ∃ sb lb, r = .returned (.pointer (some ⟨sb, 0, none⟩)) ∧ Blk w' sb 94 (srC p cb (.slice (some ⟨lb, 0, none⟩) (p.dn + 1) (p.dn + 1)) fuel .nilFunc false (.slice none 0 0) 0 (.slice none 0 0)) ∧ Blk w' lb 3 (lstF (envP p) p.dn 0) ∧ w.heap.size ≤ sb ∧ w.heap.size ≤ lb ∧ Grew w w'
set_option maxRecDepth 100000 in
set_option maxHeartbeats 16000000 in
theorem newSearch34 (p : Pl) (cb : Nat) (fuel : Int) (w : World) (hp : PlanAt w p) (ok : planB p = true) : Calls Tryz.prog 34 #[planV p, .pointer (some ⟨cb, 0, none⟩), .int .i64 fuel] w (RetNs p cb fuel w) := by
 have HP := Lib.hid hp
 have HBD := Lib.hid (env_bd hp ok)
 have dn24 : p.dn ≤ 24 := HBD.out.nD
 have dn9 := hp.ds.le
 have wn9 := hp.ws.le
 clear hp
 show Calls Tryz.prog 34 #[.agg #[.string p.nm, .int .i64 p.zb, .slice p.C p.cn p.cc, .slice p.D p.dn p.dc, .slice p.W p.wn p.wc, .int .i64 p.lm.rest, .int .i64 p.lm.week, .int .i64 p.lm.nf, .int .i64 p.lm.nt, .int .i64 p.lm.mn], .pointer (some ⟨cb, 0, none⟩), .int .i64 fuel] w _
 obtain ⟨w1, hw1⟩ : ∃ y, y = w.alloc (.cells #[.string p.nm, .int .i64 p.zb, .slice p.C p.cn p.cc, .slice p.D p.dn p.dc, .slice p.W p.wn p.wc, .int .i64 p.lm.rest, .int .i64 p.lm.week, .int .i64 p.lm.nf, .int .i64 p.lm.nt, .int .i64 p.lm.mn] 32) := ⟨_, rfl⟩
 obtain ⟨tb, htb⟩ : ∃ z, z = w.heap.size := ⟨_, rfl⟩
 have g1 : Grew w w1 := by rw [hw1]; exact (Grew.refl w).alloc _
 have X1 : Hid (Blk w1 tb 32 (planC p)) := by unfold Hid; rw [hw1, htb]; exact Blk.new w 32 (planC p)
 go_enter Tryz.func34, Tryz.ntmps34
 go_upto_region 1 with (fail)
 rw [← hw1, ← htb]
 clear hw1 htb
 have HG1 := Lib.hid g1
 have hC : ∀ w', Grew w1.drew w' → w'.cell? ⟨tb, 0, none⟩ = some (.string p.nm) ∧ w'.cell? ⟨tb, 1, none⟩ = some (.int .i64 p.zb) ∧ w'.cell? ⟨tb, 2, none⟩ = some (.slice p.C p.cn p.cc) ∧ w'.cell? ⟨tb, 3, none⟩ = some (.slice p.D p.dn p.dc) ∧ w'.cell? ⟨tb, 4, none⟩ = some (.slice p.W p.wn p.wc) ∧ w'.cell? ⟨tb, 5, none⟩ = some (.int .i64 p.lm.rest) ∧ w'.cell? ⟨tb, 6, none⟩ = some (.int .i64 p.lm.week) ∧ w'.cell? ⟨tb, 7, none⟩ = some (.int .i64 p.lm.nf) ∧ w'.cell? ⟨tb, 8, none⟩ = some (.int .i64 p.lm.nt) ∧ w'.cell? ⟨tb, 9, none⟩ = some (.int .i64 p.lm.mn) := fun w' g' => by
  have hb := (X1.out.grew ((Grew.refl w1).drew.trans g'))
  exact ⟨hb.cell rfl, hb.cell rfl, hb.cell rfl, hb.cell rfl, hb.cell rfl, hb.cell rfl, hb.cell rfl, hb.cell rfl, hb.cell rfl, hb.cell rfl⟩
 have HC := Lib.hid hC
 have e1 : IntKind.i64.wrap ((p.dn : Int) + 1) = (p.dn : Int) + 1 := IntWalk.i64_in _ (by omega)
 clear hC g1
 refine wp_region_G (by kernel_rfl) Grew.refl 11 ?_
 refine wpAnyG_takes Grew.refl (fun _ _ _ => Grew.trans) (fun _ _ _ _ _ h => h) [0, 1, 2, 3, 4, 5, 6] (fuel' := 4) (by kernel_rfl) (by kernel_rfl) (by simp only [pickOps, ugT, ug0, ug1]; rfl) ?_
 repeat (first
  | (refine TakeAll.pure (v := ?_) (by rfl) ?_ ?_; rotate_left; (intro w' g'; obtain ⟨q0, q1, q2, q3, q4, q5, q6, q7, q8, q9⟩ := HC.out w' g'; go_simp; first | done | with_reducible rfl); (simp only [Act.put, uzT, uz0, uz1]))
  | (refine TakeAll.skip (by rfl) ?_; (simp only [Act.put, uzT, uz0, uz1])))
 refine TakeAll.nil ?_
 refine wpAnyG_step (i := 7) (by kernel_rfl) (fuel' := 3) (by kernel_rfl) (by simp only [pickOps, ugT, ug0, ug1]; rfl) rfl ?_
 intro w2 g2 K hK
 obtain ⟨w3, hmk, hw3⟩ := make_ints (p.dn + 1) (p.dn + 1) (by omega) (Nat.le_refl _) w2
 rw [show ((p.dn + 1 : Nat) : Int) = (p.dn : Int) + 1 by omega] at hmk
 have g3 : Grew w2 w3 := by rw [hw3]; exact (Grew.refl w2).alloc _
 obtain ⟨lb, hlb⟩ : ∃ z, z = w2.heap.size := ⟨_, rfl⟩
 have HL3 : Hid (Blk w3 lb 3 (lstF (envP p) p.dn p.dn)) := by unfold Hid; rw [hw3, hlb, ← lstF_zero]; exact Blk.new w2 3 _
 have hsz : w3.heap.size = lb + 1 := by rw [hw3, hlb]; simp
 have G2 := (Grew.refl w1).drew.trans g2
 have HLB : Hid (w1.heap.size ≤ lb) := by unfold Hid; rw [hlb]; exact G2.le
 rw [← hlb] at hmk
 clear hw3 hlb
 go_simp
 refine hK _ _ g3 ?_
 clear hK K hmk
 refine wpAnyG_takes Grew.refl (fun _ _ _ => Grew.trans) (fun _ _ _ _ _ h => h) [8] (fuel' := 2) (by kernel_rfl) (by kernel_rfl) (by simp only [pickOps, ugT, ug0, ug1]; rfl) ?_
 repeat (first
  | (refine TakeAll.pure (v := ?_) (by rfl) ?_ ?_; rotate_left; (intro w' g'; go_simp; first | done | with_reducible rfl); (simp only [Act.put, uzT, uz0, uz1]))
  | (refine TakeAll.skip (by rfl) ?_; (simp only [Act.put, uzT, uz0, uz1])))
 refine TakeAll.nil ?_
 refine wpAnyG_step (i := 9) (by kernel_rfl) (fuel' := 1) (by kernel_rfl) (by simp only [pickOps, ugT, ug0, ug1]; rfl) rfl ?_
 intro w4 g4 K hK
 go_simp
 refine hK _ _ ((Grew.refl w4).alloc _) ?_
 clear hK K
 obtain ⟨w5, hw5⟩ : ∃ y, y = w4.alloc (.cells #[.string p.nm, .int .i64 p.zb, .slice p.C p.cn p.cc, .slice p.D p.dn p.dc, .slice p.W p.wn p.wc, .int .i64 p.lm.rest, .int .i64 p.lm.week, .int .i64 p.lm.nf, .int .i64 p.lm.nt, .int .i64 p.lm.mn, .pointer (some ⟨cb, 0, none⟩), .slice (some ⟨lb, 0, none⟩) (p.dn + 1) (p.dn + 1), .int .i64 fuel, .nilFunc, .bool false, .slice none 0 0, .int .i64 0, .slice none 0 0] 94) := ⟨_, rfl⟩
 obtain ⟨sb, hsb⟩ : ∃ z, z = w4.heap.size := ⟨_, rfl⟩
 have g5 : Grew w4 w5 := by rw [hw5]; exact (Grew.refl w4).alloc _
 have HS5 : Hid (Blk w5 sb 94 (srC p cb (.slice (some ⟨lb, 0, none⟩) (p.dn + 1) (p.dn + 1)) fuel .nilFunc false (.slice none 0 0) 0 (.slice none 0 0))) := by unfold Hid; rw [hw5, hsb]; exact Blk.new w4 94 (srC p cb (.slice (some ⟨lb, 0, none⟩) (p.dn + 1) (p.dn + 1)) fuel .nilFunc false (.slice none 0 0) 0 (.slice none 0 0))
 have HSL : Hid (lb + 1 ≤ sb) := by unfold Hid; rw [hsb, ← hsz]; exact g4.le
 rw [← hw5, ← hsb]
 have HL5 := Lib.hid (HL3.out.grew (g4.trans g5))
 have G5 := G2.trans (g3.trans (g4.trans g5))
 clear hw5 hsb hsz
 refine wpAnyG_takes Grew.refl (fun _ _ _ => Grew.trans) (fun _ _ _ _ _ h => h) [10] (fuel' := 0) (by kernel_rfl) (by kernel_rfl) (by simp only [pickOps, ugT, ug0, ug1]; rfl) ?_
 repeat (first
  | (refine TakeAll.pure (v := ?_) (by rfl) ?_ ?_; rotate_left; (intro w' g'; go_simp; first | done | with_reducible rfl); (simp only [Act.put, uzT, uz0, uz1]))
  | (refine TakeAll.skip (by rfl) ?_; (simp only [Act.put, uzT, uz0, uz1])))
 refine TakeAll.nil ?_
 refine wpAnyG_done (by kernel_rfl) ?_ _
 intro w6 g6
 have HS6 := Lib.hid (HS5.out.grew g6)
 have HL6 := Lib.hid (HL5.out.grew g6)
 have G6 := G5.trans g6
 have HG6 := Lib.hid (HG1.out.trans G6)
 have X6 := Lib.hid (X1.out.grew G6)
 have HLB6 : Hid (sb + 1 ≤ w6.heap.size) := HS6.out.lt
 clear HS5 HL5 HL3 g2 g3 g4 g5 g6 G2 G5 G6 HC
 obtain ⟨w7, hw7⟩ : ∃ y, y = w6.alloc (.cells #[.int .i64 0] 3) := ⟨_, rfl⟩
 obtain ⟨wb, hwb⟩ : ∃ z, z = w6.heap.size := ⟨_, rfl⟩
 have g7 : Grew w6 w7 := by rw [hw7]; exact (Grew.refl w6).alloc _
 have HW7 : Hid (Blk w7 wb 3 [.int .i64 0]) := by unfold Hid; rw [hw7, hwb]; exact Blk.new w6 3 [.int .i64 0]
 have HWB : Hid (sb + 1 ≤ wb ∧ w1.heap.size ≤ wb) := by have h1 := HLB6.out; have h2 := HLB.out; have h3 := HSL.out; unfold Hid; rw [hwb]; omega
 have X7 := Lib.hid (X6.out.grew g7)
 have HS7 := Lib.hid (HS6.out.grew g7)
 have HL7 := Lib.hid (HL6.out.grew g7)
 have HG7 := Lib.hid (HG6.out.trans g7)
 have v4 : w7.cell? ⟨tb, 4, none⟩ = some (.slice p.W p.wn p.wc) := X7.out.cell rfl
 go_upto_region 3 with (fail)
 rw [← hw7, ← hwb]
 clear hw7 hwb g7 HS6 HL6 HG6 X6 HLB6
 go_wp2_with fail
 clear v4
 have HW1s : Hid (w.heap.size ≤ w1.heap.size) := HG1.out.le
 go_loopw [26] (fun i y => ∃ k : Nat, k ≤ p.wn ∧ i = .int .i64 k ∧ Hid (Blk y wb 3 [.int .i64 (cheapest (envP p) k)]) ∧ Hid (KeepB (fun q => q ≠ wb) w7 y) ∧ Hid (Grew w y)) (fun i _ => p.wn - (intOf i).toNat)
 case atStart => exact ⟨0, Nat.zero_le _, rfl, HW7.out, KeepB.refl _, HG7.out⟩
 case round =>
  obtain ⟨k, hk, rfl, HB, HK, HR⟩ := hrel
  by_cases hlt : k < p.wn
  ·obtain ⟨b, o, x, hA, hx, ⟨c0, c1, c2, c3, c4⟩, _⟩ := (HP.out.grew HR.out).ws.at_ hlt
   have HXW : Hid ((envP p).wage k = x.wg) := wage_envP hx
   obtain ⟨xn, xsk, xmi, xwg, xA, xn', xc, xaw⟩ := x
   simp only at c0 c1 c2 c3 c4 HXW
   obtain ⟨cw, hcw⟩ : ∃ z, cheapest (envP p) k = z := ⟨_, rfl⟩
   have HCW := Lib.hid hcw
   rw [hcw] at HB
   have hst := cheap_step (envP p) k
   rw [hcw, HXW.out] at hst
   have HST := Lib.hid hst
   have e2 : (0 : Int) ≤ (k : Int) := by omega
   have e3 : (k : Int) < (p.wn : Int) := by omega
   have hDA := hA
   obtain ⟨wa, hwa⟩ : ∃ y, y = wr.alloc (.cells #[.string xn, .int .i64 xsk, .bool xmi, .int .i64 xwg, .slice xA xn' xc] 56) := ⟨_, rfl⟩
   obtain ⟨ba, hba⟩ : ∃ z, z = wr.heap.size := ⟨_, rfl⟩
   have HBA : Hid (Blk wa ba 56 [.string xn, .int .i64 xsk, .bool xmi, .int .i64 xwg, .slice xA xn' xc]) := by unfold Hid; rw [hwa, hba]; exact Blk.new wr 56 [.string xn, .int .i64 xsk, .bool xmi, .int .i64 xwg, .slice xA xn' xc]
   have ga : Grew wr wa := by rw [hwa]; exact (Grew.refl wr).alloc _
   go_upto_region 6 with (fail)
   rw [← hwa, ← hba]
   clear hDA hA hx c0 c1 c2 c3 c4 hwa hba hst hcw
   have HBa := Lib.hid (HB.out.grew ga)
   have HKa : Hid (KeepB (fun q => q ≠ wb) w7 wa) := HK.out.trans (KeepB.grew ga)
   have HRa := Lib.hid (HR.out.trans ga)
   have u3 : wa.cell? ⟨ba, 3, none⟩ = some (.int .i64 xwg) := HBA.out.cell rfl
   have b0 : wa.cell? ⟨wb, 0, none⟩ = some (.int .i64 cw) := HBa.out.cell rfl
   have f0 := HBa.out.frozen 0
   have k01 : k = 0 ∨ 0 < k := by omega
   clear ga HB HK HR
   by_cases hc : k = 0 ∨ xwg < cw
   ·have HN : Hid (cheapest (envP p) (k + 1) = xwg) := by unfold Hid; rw [HST.out, if_pos hc]
    have HBn : Hid (Blk (wa.setCell ⟨wb, 0, none⟩ (.int .i64 xwg)) wb 3 [.int .i64 (cheapest (envP p) (k + 1))]) := by unfold Hid; rw [HN.out]; exact HBa.out.set 0 _
    have HKn : Hid (KeepB (fun q => q ≠ wb) w7 (wa.setCell ⟨wb, 0, none⟩ (.int .i64 xwg))) := HKa.out.trans (KeepB.grown (grown_set wa wb 0 _) (fun h => h rfl))
    have HRn : Hid (Grew w (wa.setCell ⟨wb, 0, none⟩ (.int .i64 xwg))) := HRa.out.grown (grown_set wa wb 0 _) (fun q hq => by injection hq with hq; have := HWB.out; have := HW1s.out; omega)
    obtain ⟨wn', hwn'⟩ : ∃ y, y = wa.setCell ⟨wb, 0, none⟩ (.int .i64 xwg) := ⟨_, rfl⟩
    rw [← hwn'] at HBn HKn HRn
    rcases k01 with rfl | hk0
    ·have q1 : ((0 : Nat) : Int) = 0 := rfl
     clear hc
     go_upto_region 8 with (fail)
     rw [← hwn']
     clear hwn' u3 b0 f0
     go_wp2_with fail
     go_roundw
     case rel => exact ⟨0 + 1, by omega, by go_num, HBn, HKn, HRn⟩
     case measure => simp [intOf]; omega
    ·have q1 : ((k : Int) == 0) = false := by simp; omega
     have q2 : (k == 0) = false := by simp; omega
     have q3 : xwg < cw := by rcases hc with h | h; omega; exact h
     have q4 : decide (xwg < cw) = true := decide_eq_true q3
     clear hc
     go_upto_region 8 with (fail)
     rw [← hwn']
     clear hwn' u3 b0 f0
     go_wp2_with fail
     go_roundw
     case rel => exact ⟨k + 1, by omega, by go_num, HBn, HKn, HRn⟩
     case measure => simp [intOf]; omega
   ·have HN : Hid (cheapest (envP p) (k + 1) = cw) := by unfold Hid; rw [HST.out, if_neg hc]
    have HBn : Hid (Blk wa wb 3 [.int .i64 (cheapest (envP p) (k + 1))]) := by unfold Hid; rw [HN.out]; exact HBa.out
    have q1 : ((k : Int) == 0) = false := by simp; omega
    have q2 : (k == 0) = false := by simp; omega
    have q4 : decide (xwg < cw) = false := decide_eq_false (fun h => hc (.inr h))
    clear hc
    go_wp2_with fail
    go_roundw
    case rel => exact ⟨k + 1, by omega, by go_num, HBn, HKa, HRa⟩
    case measure => simp [intOf]; omega
  ·obtain rfl : k = p.wn := by omega
   have X8 := Lib.hid (blk_keepB X7.out HK.out (by have h1 := X1.out.lt; have h2 := HWB.out; show tb ≠ wb; omega))
   have HS8 := Lib.hid (blk_keepB HS7.out HK.out (by have h2 := HWB.out; show sb ≠ wb; omega))
   have HL8 := Lib.hid (blk_keepB HL7.out HK.out (by have h2 := HWB.out; have h3 := HSL.out; show lb ≠ wb; omega))
   obtain ⟨we, rfl⟩ : ∃ y, y = wr := ⟨wr, rfl⟩
   have HTL : Hid (tb ≠ lb) := by have h1 := X1.out.lt; have h2 := HLB.out; unfold Hid; omega
   have HWL : Hid (wb ≠ lb) := by have h2 := HWB.out; have h3 := HSL.out; unfold Hid; omega
   have HSLn : Hid (sb ≠ lb) := by have h3 := HSL.out; unfold Hid; omega
   have v3 : we.cell? ⟨tb, 3, none⟩ = some (.slice p.D p.dn p.dc) := X8.out.cell rfl
   clear X7 HS7 HL7 HW7 HG7
   go_upto_region 10 with (fail)
   have em : IntKind.i64.wrap ((p.dn : Int) - 1) = (p.dn : Int) - 1 := IntWalk.i64_in _ (by omega)
   go_wp2_with fail
   clear v3 em
   go_loopw [12] (fun i y => ∃ d : Nat, d ≤ p.dn ∧ i = .int .i64 ((d : Int) - 1) ∧ Hid (Blk y lb 3 (lstF (envP p) p.dn d)) ∧ Hid (KeepB (fun q => q ≠ lb) we y) ∧ Hid (Grew w y)) (fun i _ => (intOf i + 1).toNat)
   case atStart => exact ⟨p.dn, Nat.le_refl _, rfl, HL8.out, KeepB.refl _, HR.out⟩
   case round =>
    have HBw := HB
    clear HL8 HK HB HR
    obtain ⟨d, hd, rfl, HL, HK, HR⟩ := hrel
    cases d with
    | zero =>
     have q0 : ((0 : Nat) : Int) - 1 = -1 := rfl
     rw [q0]
     clear q0
     go_wp2
     go_ret
     exact ⟨sb, lb, rfl, blk_keepB HS8.out HK.out HSLn.out, HL.out, by have := HSL.out; have := HLB.out; have := HW1s.out; omega, by have := HLB.out; have := HW1s.out; omega, HR.out⟩
    | succ m =>
     have q0 : ((m + 1 : Nat) : Int) - 1 = (m : Int) := by omega
     rw [q0]
     clear q0
     have hBD := HBD.out
     have HSm := Lib.hid (blk_keepB HS8.out HK.out HSLn.out)
     have HXm := Lib.hid (blk_keepB X8.out HK.out HTL.out)
     have HWm := Lib.hid (blk_keepB HBw.out HK.out HWL.out)
     have HPm := Lib.hid (HP.out.grew HR.out)
     have e1 : (0 : Int) ≤ (m : Int) := by omega
     have e2 : (m : Int) < (p.dn : Int) + 1 := by omega
     have e3 : (m : Int) + 1 < (p.dn : Int) + 1 := by omega
     have e7 : (0 : Int) ≤ (m : Int) + 1 := by omega
     have e4 : IntKind.i64.wrap ((m : Int) + 1) = (m : Int) + 1 := IntWalk.i64_in _ (by omega)
     have e5 : IntKind.i64.wrap ((m : Int) - 1) = ((m : Nat) : Int) - 1 := IntWalk.i64_in _ (by omega)
     obtain ⟨z1, hz1⟩ : ∃ z, leastR (envP p) (p.dn - (m + 1)) = z := ⟨_, rfl⟩
     obtain ⟨z2, hz2⟩ : ∃ z, cheapest (envP p) p.wn * ((p.du m).b - (p.du m).a) = z := ⟨_, rfl⟩
     have hb1 := least_bd hBD (p.dn - (m + 1))
     have hcb := cheap_bd (by decide) hBD.wage p.wn
     have hdb : 0 ≤ (p.du m).b - (p.du m).a ∧ (p.du m).b - (p.du m).a ≤ 1440 := hBD.dur m
     have hb2 := mul_bd hcb hdb
     rw [hz1] at hb1
     rw [hz2] at hb2
     have HZ2 := Lib.hid hz2
     have HSUM : Hid (z1 + z2 = leastR (envP p) (p.dn - m)) := by
      unfold Hid
      rw [show p.dn - m = (p.dn - (m + 1)) + 1 by omega]
      show _ = leastR (envP p) (p.dn - (m + 1)) + cheapest (envP p) (envP p).nW * (envP p).dur ((envP p).nD - (p.dn - (m + 1) + 1))
      rw [hz1, show (envP p).nD - (p.dn - (m + 1) + 1) = m by show p.dn - _ = m; omega, ← hz2]; rfl
     have e6 : IntKind.i64.wrap (z1 + z2) = z1 + z2 := IntWalk.i64_in _ (by omega)
     have HLx : Hid (∀ w', Grew wr.drew w' → w'.cell? ⟨sb, 11, none⟩ = some (.slice (some ⟨lb, 0, none⟩) (p.dn + 1) (p.dn + 1)) ∧ w'.cell? ⟨lb, m + 1, none⟩ = some (.int .i64 z1)) := fun w' g' => by
      have gg := (Grew.refl wr).drew.trans g'
      refine ⟨(HSm.out.grew gg).cell rfl, ?_⟩
      have h1 := (HL.out.grew gg).cell (lstF_at (E := envP p) (n := p.dn) (d := m + 1) (i := m + 1) (by omega))
      rw [if_pos (Nat.le_refl _), hz1] at h1
      exact h1
     have HCB := Lib.hid hcb
     have HDB := Lib.hid hdb
     have HMD : Hid (m < p.dn) := by unfold Hid; omega
     clear hz1 hz2 hBD hcb hdb hb1 hb2
     go_upto_region 13 with (fail)
     refine wp_region_G (by kernel_rfl) Grew.refl 18 ?_
     refine wpAnyG_takes Grew.refl (fun _ _ _ => Grew.trans) (fun _ _ _ _ _ h => h) [0, 1, 2, 3, 4, 5, 6, 7, 8, 9, 10, 11, 12, 13, 14, 15, 16, 17] (fuel' := 1) (by kernel_rfl) (by kernel_rfl) (by simp only [pickOps, ugT, ug0, ug1]; rfl) ?_
     repeat (first
      | (refine TakeAll.pure (v := ?_) (by rfl) ?_ ?_; rotate_left; (intro w' g'; obtain ⟨q0, q1⟩ := HLx.out w' g'; go_simp; first | done | with_reducible rfl); (simp only [Act.put, uzT, uz0, uz1]))
      | (refine TakeAll.skip (by rfl) ?_; (simp only [Act.put, uzT, uz0, uz1])))
     refine TakeAll.call (by rfl) 74 _ (fun _ => by go_simp; first | done | rfl) (fun w' g' => ch74 (HPm.out.grew ((Grew.refl wr).drew.trans g')) HMD.out ((HWm.out.grew ((Grew.refl wr).drew.trans g')).cell rfl) ((HXm.out.grew ((Grew.refl wr).drew.trans g')).cell rfl) HCB.out HDB.out HZ2.out) ?_
     simp only [Act.put, uzT, uz0, uz1]
     repeat (first
      | (refine TakeAll.pure (v := ?_) (by rfl) ?_ ?_; rotate_left; (intro w' g'; obtain ⟨q0, q1⟩ := HLx.out w' g'; go_simp; first | done | with_reducible rfl); (simp only [Act.put, uzT, uz0, uz1]))
      | (refine TakeAll.skip (by rfl) ?_; (simp only [Act.put, uzT, uz0, uz1])))
     refine TakeAll.nil ?_
     refine wpAnyG_end (by kernel_rfl) (fuel' := 0) (by kernel_rfl) (by simp only [pickOps, ugT, ug0, ug1]; rfl) rfl ?_
     intro w9 g9 K hK
     have G9 := (Grew.refl wr).drew.trans g9
     have HL9 := Lib.hid (HL.out.grew G9)
     have cl := HL9.out.cell (lstF_at (E := envP p) (n := p.dn) (d := m + 1) (i := m) (by omega))
     have fl := HL9.out.frozen m
     go_simp
     refine hK _ _ ?_
     clear hK K cl fl
     have HLn : Hid (Blk (w9.setCell ⟨lb, m, none⟩ (.int .i64 (z1 + z2))) lb 3 (lstF (envP p) p.dn m)) := by
      unfold Hid
      have h1 := HL9.out.set m (.int .i64 (z1 + z2))
      rw [HSUM.out] at h1 ⊢
      have h2 := lstF_set (E := envP p) HMD.out
      unfold iv at h2
      rw [h2] at h1
      exact h1
     have HKn : Hid (KeepB (fun q => q ≠ lb) we (w9.setCell ⟨lb, m, none⟩ (.int .i64 (z1 + z2)))) := (HK.out.trans (KeepB.grew G9)).trans (KeepB.grown (grown_set w9 lb m _) (fun h => h rfl))
     have HRn : Hid (Grew w (w9.setCell ⟨lb, m, none⟩ (.int .i64 (z1 + z2)))) := (HR.out.trans G9).grown (grown_set w9 lb m _) (fun q hq => by injection hq with hq; have := HLB.out; have := HW1s.out; omega)
     obtain ⟨wn', hwn'⟩ : ∃ y, y = w9.setCell ⟨lb, m, none⟩ (.int .i64 (z1 + z2)) := ⟨_, rfl⟩
     rw [← hwn'] at HLn HKn HRn ⊢
     clear hwn' HL9 G9 g9 HL HK HR HLx HSm HXm HWm HPm
     refine wpAny_rest (fun _ _ _ _ _ h => h) [] (by kernel_rfl) (by kernel_rfl) (by kernel_rfl) rfl (TakeAll.nil ?_)
     go_wp2_with fail
     go_roundw
     case rel => exact ⟨m, by have := HMD.out; omega, rfl, HLn, HKn, HRn⟩
     case measure => simp [intOf]
end Go.Proofs.YtnnbibmmofnkdaaGreat
namespace Go.Proofs.YtnnbibmmofnkdaaGreat
open Go.RowKit Go.Proofs WageMem WageReg WageRec WageSpan WageTop
/-- The workers one after the other. -/
def extG {σ : Type} (f : Nat → σ → σ × Option Int) (g : Int → σ → σ) : List Nat → σ → σ × Bool
 | [], s => (s, true)
 | i :: is, s => match f i s with
  | (s', some j) => extG f g is (g j s')
  | (s', none) => (s', false)
theorem wpList_append_run {ops : Array Oper} {rest : List Oper} {o : Oper} {a : Act} {w : World} {Q : Exit → Act → World → Prop} (hgd : o.guard = none) (s x : Operand) (t t' : TypeId)
  (ho : o.op = .call { callee := .builtin .append, args := #[s, x], argTypes := #[t, t'] }) {vs vx v' : Value} {w' : World} (hs : a.eval s = vs) (hx : a.eval x = vx)
  (hrun : (Builtin.append_ #[t, t'] o.type #[vs, vx]).run Tryz.prog w = .ok v' w') (h : wpList Tryz.prog ops Q rest (a.put o.dst v') w') : wpList Tryz.prog ops Q (o :: rest) a w :=
 wpList_plain hgd fun _ hK => wp_append_run w s x t t' ho hs hx hrun (hK _ _ h)
theorem own_trunc {W : World} {base : Nat} {e : TypeId} {g m c : Nat} {xs : List Value} {u : Value} (h : W.ownsRow base e 1 (.slice (some ⟨g, 0, none⟩) (m + 1) c) (m + 1) (xs ++ [u])) : W.ownsRow base e 1 (.slice (some ⟨g, 0, none⟩) m c) m xs := by
 have hl : xs.length = m := by have := h.1; rw [List.length_append] at this; simp at this; omega
 refine ⟨by omega, ?_⟩
 rcases h.2 with ⟨h0, _⟩ | ⟨g', cap, cur, h1, h2, h3, h4, h5, h6, h7⟩
 ·injection h0 with h0; cases h0
 ·injection h1 with e1 e2 e3
  injection e1 with e1
  injection e1 with e1
  subst e1 e3
  refine .inr ⟨g, c, cur, rfl, h2, h3, by omega, h5, h6, ?_⟩
  have h8 := congrArg (List.take m) h7
  rw [List.take_take, List.take_left' hl] at h8
  rw [← h8]
  congr 1
  omega
theorem grown_of {y y' : World} (g : Grew y y') (row : Option Nat) : y.grownBy y' row := ⟨g.os, g.tape, g.output, g.size, fun k hk _ => Below.block g k hk⟩
/-- A block of numbers. -/
def T3 (y : World) (b : Nat) : Prop := ∃ cs fz, y.heap[b]? = some (.cells cs 3 fz)
theorem own_t3 {y : World} {base pb n c : Nat} {xs : List Value} (h : y.ownsRow base 3 1 (.slice (some ⟨pb, 0, none⟩) n c) n xs) : T3 y pb := by
 rcases h.2 with ⟨h0, _⟩ | ⟨g', cap, cur, h1, _, h3, _⟩
 ·injection h0 with h0; cases h0
 ·injection h1 with h1 _ _; injection h1 with h1; injection h1 with h1; subst h1; exact ⟨_, _, h3⟩
/-- What extend returns. -/
def RetEx {σ : Type} (Sp : World → σ → Prop) (w1 : World) (pb dn : Nat) (pre : List Int) (fin : σ × Bool) (r : Ending) (y' : World) : Prop :=
 Grew w1 y' ∧ r = .returned (.int .i64 (if fin.2 then 0 else 201)) ∧ (fin.2 = true → Sp y' fin.1 ∧ y'.ownsRow w1.heap.size 3 1 (.slice (some ⟨pb, 0, none⟩) pre.length dn) pre.length (pre.map iv))
/-- What a visit returns. -/
def RetVi {σ : Type} (Sp : World → σ → Prop) (w1 : World) (pb dn : Nat) (pre : List Int) (fin : σ × Option Int) (r : Ending) (y' : World) : Prop :=
 Grew w1 y' ∧ ∃ j, r = .returned (.tuple #[.int .i64 j, .int .i64 (if fin.2.isSome then 0 else 201)]) ∧ (fin.2 = none ∨ (fin.2 = some j ∧ Sp y' fin.1 ∧ y'.ownsRow w1.heap.size 3 1 (.slice (some ⟨pb, 0, none⟩) pre.length dn) pre.length (pre.map iv)))
set_option maxRecDepth 100000 in
set_option maxHeartbeats 16000000 in
theorem extend79 {p : Pl} {w1 : World} (hp : PlanAt w1 p) (ok : planB p = true) {sb pb : Nat} {pre : List Int} {c : Int} (hm : pre.length < p.dn) (hcb : 0 ≤ c ∧ c ≤ 1000000000000)
  {σ : Type} (Sp : Nat → World → σ → Prop) (f : Nat → σ → σ × Option Int) (g : Int → σ → σ) (vf ef : Nat) (caps : Array Value)
  (egv : ∀ args w, (callFunc vf args).run Tryz.prog w = .ok (.enter vf args) w) (ege : ∀ args w, (callFunc ef args).run Tryz.prog w = .ok (.enter ef args) w)
  (hS : ∀ k y y' s, Sp k y s → y.grownBy y' (some pb) → T3 y' pb → Sp k y' s)
  (hSb : ∀ k y s, Sp k y s → ∃ cs, Blk y sb 94 cs ∧ cs[3]? = some (.slice p.D p.dn p.dc) ∧ cs[4]? = some (.slice p.W p.wn p.wc) ∧ cs[13]? = some (.func (.func vf) #[.pointer (some ⟨sb, 0, none⟩)] #[]))
  (hv : ∀ y s i, i < p.wn → Grew w1 y → Sp i y s → y.ownsRow w1.heap.size 3 1 (.slice (some ⟨pb, 0, none⟩) (pre.length + 1) p.dn) (pre.length + 1) ((pre ++ [(i : Int)]).map iv) →
   Calls Tryz.prog vf #[.pointer (some ⟨sb, 0, none⟩), .slice (some ⟨pb, 0, none⟩) (pre.length + 1) p.dn, .int .i64 (c + (envP p).wage i * (envP p).dur pre.length)] y (RetVi (Sp i) w1 pb p.dn (pre ++ [(i : Int)]) (f i s)))
  (he : ∀ i y s j, i < p.wn → Grew w1 y → Sp i y s → T3 y pb → Calls Tryz.prog ef (#[.int .i64 j] ++ caps) y fun r y' => r = .returned (.tuple #[]) ∧ Grew w1 y' ∧ Sp (i + 1) y' (g j s) ∧ ∀ n xs, y.ownsRow w1.heap.size 3 1 (.slice (some ⟨pb, 0, none⟩) n p.dn) n xs → y'.ownsRow w1.heap.size 3 1 (.slice (some ⟨pb, 0, none⟩) n p.dn) n xs)
  {y0 : World} {s0 : σ} (g0 : Grew w1 y0) (hs0 : Sp 0 y0 s0) (ho0 : y0.ownsRow w1.heap.size 3 1 (.slice (some ⟨pb, 0, none⟩) pre.length p.dn) pre.length (pre.map iv)) :
  Calls Tryz.prog 79 #[.pointer (some ⟨sb, 0, none⟩), .slice (some ⟨pb, 0, none⟩) pre.length p.dn, .int .i64 c, .func (.func ef) #[] caps] y0 (RetEx (Sp p.wn) w1 pb p.dn pre (extG f g (List.range p.wn) s0)) := by
 obtain ⟨i3, hi3, hz3, hs3, hb3⟩ := info_parts info3
 have HP := Lib.hid hp
 have HBD := Lib.hid (env_bd hp ok)
 have dn24 : p.dn ≤ 24 := HBD.out.nD
 have dn9 := hp.ds.le
 have wn9 := hp.ws.le
 have HS := Lib.hid hS
 have HSB := Lib.hid hSb
 have HV := Lib.hid hv
 have HE := Lib.hid he
 have HG0 := Lib.hid g0
 have HS0 := Lib.hid hs0
 have HO0 := Lib.hid ho0
 obtain ⟨m, hmm⟩ : ∃ m, pre.length = m := ⟨_, rfl⟩
 have HMM := Lib.hid hmm
 rw [hmm] at HO0 HV hm ⊢
 clear hS hSb hv he g0 hs0 ho0 hp hmm
 obtain ⟨FIN, hFIN⟩ : ∃ q, extG f g (List.range p.wn) s0 = q := ⟨_, rfl⟩
 rw [hFIN]
 have HFIN := Lib.hid hFIN
 clear hFIN
 obtain ⟨cs0, hc0, hcD0, hcW0, hcV0⟩ := HSB.out 0 y0 s0 HS0.out
 have cW : y0.cell? ⟨sb, 4, none⟩ = some (.slice p.W p.wn p.wc) := hc0.cell hcW0
 clear hc0 hcD0 hcW0 hcV0
 go_enter Tryz.func79, Tryz.ntmps79
 go_wp2_with fail
 clear cW
 go_loopw [23] (fun i y => ∃ (k : Nat) (s : σ), k ≤ p.wn ∧ i = .int .i64 k ∧ Hid (Sp k y s) ∧ Hid (y.ownsRow w1.heap.size 3 1 (.slice (some ⟨pb, 0, none⟩) m p.dn) m (pre.map iv)) ∧ Hid (Grew w1 y) ∧ Hid (extG f g ((List.range p.wn).drop k) s = FIN)) (fun i _ => p.wn - (intOf i).toNat)
 case atStart => exact ⟨0, s0, Nat.zero_le _, rfl, HS0.out, HO0.out, HG0.out, HFIN.out⟩
 case round =>
  clear HS0 HO0 HG0 HFIN
  obtain ⟨k, s, hk, rfl, HSp, HO, HR, HF⟩ := hrel
  by_cases hlt : k < p.wn
  ·obtain ⟨b, o, x, hA, hx, ⟨c0, c1, c2, c3, c4⟩, _⟩ := (HP.out.grew HR.out).ws.at_ hlt
   have HXW : Hid ((envP p).wage k = x.wg) := wage_envP hx
   obtain ⟨xn, xsk, xmi, xwg, xA, xn', xc, xaw⟩ := x
   simp only at c0 c1 c2 c3 c4 HXW
   have e2 : (0 : Int) ≤ (k : Int) := by omega
   have e3 : (k : Int) < (p.wn : Int) := by omega
   have HF2 : Hid (extG f g (k :: (List.range p.wn).drop (k + 1)) s = FIN) := by
    have h1 := HF.out
    rw [drop_at' (d := k) (by rw [List.getElem?_range hlt])] at h1
    exact h1
   obtain ⟨wa, hwa⟩ : ∃ y, y = wr.alloc (.cells #[.string xn, .int .i64 xsk, .bool xmi, .int .i64 xwg, .slice xA xn' xc] 56) := ⟨_, rfl⟩
   obtain ⟨ba, hba⟩ : ∃ z, z = wr.heap.size := ⟨_, rfl⟩
   have HBA : Hid (Blk wa ba 56 [.string xn, .int .i64 xsk, .bool xmi, .int .i64 xwg, .slice xA xn' xc]) := by unfold Hid; rw [hwa, hba]; exact Blk.new wr 56 [.string xn, .int .i64 xsk, .bool xmi, .int .i64 xwg, .slice xA xn' xc]
   have ga : Grew wr wa := by rw [hwa]; exact (Grew.refl wr).alloc _
   go_upto_region 5 with (fail)
   rw [← hwa, ← hba]
   clear hA hx c0 c1 c2 c3 c4 hwa hba
   obtain ⟨wy, hwy⟩ : ∃ y, y = wa.alloc (.cells #[.int .i64 (k : Int)] 3) := ⟨_, rfl⟩
   obtain ⟨by', hby⟩ : ∃ z, z = wa.heap.size := ⟨_, rfl⟩
   have gy : Grew wa wy := by rw [hwy]; exact (Grew.refl wa).alloc _
   have BI : Hid (Sl wy 1 (some ⟨by', 0, none⟩) 1 1 ([(k : Int)].map iv)) := by unfold Hid; rw [hwy, hby]; exact builtS (w := wa) (t := 3) 1 1 #[.int .i64 (k : Int)] _ rfl rfl (by decide)
   have gg := ga.trans gy
   have HOy := own_grew HO.out gg
   obtain ⟨w7, hrun, own7, hg7⟩ := run_append_fits (P := Tryz.prog) wy w1.heap.size 38 38 3 i3 1 Tryz.underlying38 hi3 hs3 pb m p.dn _ HOy ⟨by', 0, none⟩ 1 1 ([(k : Int)].map iv) rfl (fun j u hu => by
    obtain ⟨b', o', h1, h2⟩ := BI.out.2.2.2.1 (by simp)
    injection h1 with h1
    injection h1 with e1 e2
    subst e1 e2
    have := h2 j u hu
    rw [addr_add_plain]; exact this) (iv_one _) (by omega)
   have HRUN := Lib.hid hrun
   have HSp7 : Hid (Sp k w7 s) := HS.out _ _ _ _ (HS.out _ _ _ _ HSp.out (grown_of gg _) (own_t3 HOy)) hg7 (own_t3 own7)
   have HO7 : Hid (w7.ownsRow w1.heap.size 3 1 (.slice (some ⟨pb, 0, none⟩) (m + 1) p.dn) (m + 1) ((pre ++ [(k : Int)]).map iv)) := by unfold Hid; rw [List.map_append]; exact own7
   have HR7 : Hid (Grew w1 w7) := (HR.out.trans gg).grown hg7 (fun q hq => (HOy.lt q hq).1)
   have HBA7 : Hid (Blk w7 ba 56 [.string xn, .int .i64 xsk, .bool xmi, .int .i64 xwg, .slice xA xn' xc]) := (HBA.out.grew gy).kept hg7 (own_blk HOy (HBA.out.grew gy) (by decide))
   have hpn : Hid (p.dn ≤ 9223372036854775807) := dn9
   have i1 : (m : Int) ≤ (p.dn : Int) := by omega
   have i2 : (0 : Int) ≤ (m : Int) := by omega
   clear hrun own7 hg7 HOy gg gy ga BI HSp HO HR HF HBA
   go_upto_region 6 with (at_builtin; rw [← hwy, ← hby]; refine wpList_append_run rfl (.tmp 32) (.tmp 34) 38 38 rfl rfl rfl HRUN.out ?_)
   obtain ⟨bd, od, xd, hDa, hxd, ⟨d0, d1, d2⟩, _⟩ := (HP.out.grew HR7.out).ds.at_ hm
   have hbd := HBD.out
   have hdb : 0 ≤ (p.du m).b - (p.du m).a ∧ (p.du m).b - (p.du m).a ≤ 1440 := hbd.dur m
   have hwb := hbd.wage k
   have HDU : Hid ((envP p).dur m = xd.b - xd.a) := by unfold Hid; rw [← du_at hxd]; rfl
   rw [du_at hxd] at hdb
   rw [HXW.out] at hwb
   obtain ⟨xa, xb, xs⟩ := xd
   simp only at hdb d0 d1 d2 HDU
   have hmb := mul_bd hwb hdb
   obtain ⟨z, hz⟩ : ∃ z, xwg * (xb - xa) = z := ⟨_, rfl⟩
   rw [hz] at hmb
   have HZ := Lib.hid hz
   have e4 : IntKind.i64.wrap (xwg * (xb - xa)) = z := by rw [hz]; exact IntWalk.i64_in _ (by omega)
   have e5 : IntKind.i64.wrap (c + z) = c + z := IntWalk.i64_in _ (by omega)
   have HWR : Hid (wrap64 (xb - xa) = xb - xa) := wrap64_id (by omega) (by omega)
   obtain ⟨cs, hcs, hcD, hcW, hcV⟩ := HSB.out k w7 s HSp7.out
   rw [hDa] at hcD
   have hA : ∀ w', Grew w7.drew w' → (w'.cell? ⟨sb, 13, none⟩ = some (.func (.func vf) #[.pointer (some ⟨sb, 0, none⟩)] #[]) ∧ w'.cell? ⟨sb, 3, none⟩ = some (.slice (some ⟨bd, od, none⟩) p.dn p.dc)) ∧ w'.cell? ⟨ba, 3, none⟩ = some (.int .i64 xwg) ∧ (w'.cell? ⟨bd, od + m * 3, none⟩ = some (.int .i64 xa) ∧ w'.cell? ⟨bd, od + m * 3 + 1, none⟩ = some (.int .i64 xb) ∧ w'.cell? ⟨bd, od + m * 3 + 2, none⟩ = some (.int .i64 xs)) := fun w' g' => by
    have gg := (Grew.refl w7).drew.trans g'
    exact ⟨⟨(hcs.grew gg).cell hcV, (hcs.grew gg).cell hcD⟩, (HBA7.out.grew gg).cell rfl, gg.cell d0, gg.cell d1, gg.cell d2⟩
   have HA := Lib.hid hA
   have i3 : (m : Int) < (p.dn : Int) := by omega
   have HVK := Lib.hid (HV.out)
   clear hA d0 d1 d2 hcs hcD hcW hcV hDa hxd hwb hdb hmb hz hbd hwy hby
   refine wp_region_G (by kernel_rfl) Grew.refl 19 ?_
   refine wpAnyG_takes Grew.refl (fun _ _ _ => Grew.trans) (fun _ _ _ _ _ h => h) [0, 1, 2, 3, 4, 5, 6, 7, 8, 9, 10, 11, 12, 13, 14, 15, 16, 17, 18] (fuel' := 6) (by kernel_rfl) (by kernel_rfl) (by simp only [pickOps, ugT, ug0, ug1]; rfl) ?_
   repeat (first
    | (refine TakeAll.pure (v := ?_) (by rfl) ?_ ?_; rotate_left; (intro w' g'; obtain ⟨⟨q0, q1⟩, q2, q3, q4, q5⟩ := HA.out w' g'; go_simp; first | done | with_reducible rfl); (simp only [Act.put, uzT, uz0, uz1]))
    | (refine TakeAll.skip (by rfl) ?_; (simp only [Act.put, uzT, uz0, uz1])))
   refine TakeAll.call (by rfl) 75 _ (fun _ => by go_simp; first | done | rfl) (fun w' g' => minutes75 xa xb xs _ w' HWR.out) ?_
   simp only [Act.put, uzT, uz0, uz1]
   repeat (first
    | (refine TakeAll.pure (v := ?_) (by rfl) ?_ ?_; rotate_left; (intro w' g'; obtain ⟨⟨q0, q1⟩, q2, q3, q4, q5⟩ := HA.out w' g'; go_simp; first | done | with_reducible rfl); (simp only [Act.put, uzT, uz0, uz1]))
    | (refine TakeAll.skip (by rfl) ?_; (simp only [Act.put, uzT, uz0, uz1])))
   refine TakeAll.nil ?_
   refine wpAnyG_end (by kernel_rfl) (fuel' := 5) (by kernel_rfl) (by simp only [pickOps, ugT, ug0, ug1]; rfl) rfl ?_
   intro w8 g8 K hK
   have G8 := (Grew.refl w7).drew.trans g8
   refine wp_call vf _ (by go_simp; first | done | rfl) ?_
   have hcall := HVK.out w8 s k hlt (HR7.out.trans G8) (HS.out _ _ _ _ HSp7.out (grown_of G8 _) (own_t3 (own_grew HO7.out G8))) (own_grew HO7.out G8)
   rw [HXW.out, HDU.out, HZ.out] at hcall
   refine hcall.mono ?_
   rintro r w9 ⟨hR9, jj, rfl, hjj⟩
   refine ⟨_, rfl, hK _ _ ?_⟩
   clear hK K hcall
   have HR9 := Lib.hid hR9
   have HJ : Hid ((f k s).2 = none ∨ ((f k s).2 = some jj ∧ Sp k w9 (f k s).1 ∧ w9.ownsRow w1.heap.size 3 1 (.slice (some ⟨pb, 0, none⟩) m p.dn) m (pre.map iv))) := by
    rcases hjj with h | ⟨h1, h2, h3⟩
    ·exact .inl h
    ·rw [show (pre ++ [(k : Int)]).length = m + 1 by rw [List.length_append, HMM.out]; rfl, List.map_append] at h3
     exact .inr ⟨h1, h2, own_trunc h3⟩
   clear hR9 hjj g8 G8 HA HSp7 HO7 HR7 HBA7
   simp only [Act.put, uzT, uz0, uz1]
   refine wpAny_rest (fun _ _ _ _ _ h => h) [20, 21, 22, 23, 24] (by kernel_rfl) (by kernel_rfl) (by kernel_rfl) rfl ?_
   repeat (first
    | (refine TakeAll.pure (v := ?_) (by rfl) ?_ ?_; rotate_left; (intro w' g'; go_simp; first | done | with_reducible rfl); (simp only [Act.put, List.setIfInBounds_toArray]))
    | (refine TakeAll.skip (by rfl) ?_; (simp only [Act.put, List.setIfInBounds_toArray])))
   refine TakeAll.nil ?_
   cases hfk : (f k s).2 with
   | none =>
    have HFN : Hid (FIN = ((f k s).1, false)) := by
     have h1 := HF2.out
     unfold extG at h1
     cases hfs : f k s with
     | mk s' oj => rw [hfs] at h1 hfk; simp only at hfk; subst hfk; exact h1.symm
    clear hfk HJ
    go_wp2
    go_ret
    exact ⟨HR9.out, by rw [HFN.out]; rfl, fun h => by rw [HFN.out] at h; cases h⟩
   | some j =>
    obtain ⟨hj1, hS9, hO9⟩ : some j = some jj ∧ Sp k w9 (f k s).1 ∧ w9.ownsRow w1.heap.size 3 1 (.slice (some ⟨pb, 0, none⟩) m p.dn) m (pre.map iv) := by
     rcases HJ.out with h | h
     ·rw [hfk] at h; cases h
     ·rw [hfk] at h; exact h
    injection hj1 with hj1
    subst hj1
    have HS9 := Lib.hid hS9
    have HO9 := Lib.hid hO9
    clear hS9 hO9
    have HFN : Hid (extG f g ((List.range p.wn).drop (k + 1)) (g j (f k s).1) = FIN) := by
     have h1 := HF2.out
     unfold extG at h1
     cases hfs : f k s with
     | mk s' oj => rw [hfs] at h1 hfk; simp only at hfk; subst hfk; exact h1
    have hcl := HE.out k w9 (f k s).1 j hlt HR9.out HS9.out (own_t3 HO9.out)
    have HCL := Lib.hid hcl
    clear hfk HJ hcl
    go_wp2_with fail
    refine HCL.out.mono ?_
    rintro r wx ⟨rfl, hrx, hsx, hox⟩
    have HRx := Lib.hid hrx
    have HSx := Lib.hid hsx
    have HOx := Lib.hid (hox _ _ HO9.out)
    clear hrx hsx hox
    go_wp2_with fail
    go_roundw
    case rel => exact ⟨k + 1, g j (f k s).1, by omega, by go_num, HSx, HOx, HRx, HFN⟩
    case measure => simp [intOf]; omega
  ·obtain rfl : k = p.wn := by omega
   have HFN : Hid (FIN = (s, true)) := by
    have h1 := HF.out
    rw [List.drop_eq_nil_of_le (by simp)] at h1
    exact h1.symm
   go_wp2
   go_ret
   exact ⟨HR.out, by rw [HFN.out]; rfl, fun _ => ⟨by rw [HFN.out]; exact HSp.out, by rw [HMM.out]; exact HO.out⟩⟩
end Go.Proofs.YtnnbibmmofnkdaaGreat
