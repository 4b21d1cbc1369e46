/-
 The statements' helpers: pick, Cost, Numbered.
-/
import Derived.Test.YtnnbibmmofnkdaaGreatTopB
namespace Go.Proofs.YtnnbibmmofnkdaaGreat
open Go.RowKit Go.Proofs WageMem WageReg WageRec WageSpan WageTop

def pickF (c n : Int) : Int := if c < 0 then (-(c + 1)).tmod n else c.tmod n
theorem pickF_bd {c n : Int} (hn : 0 < n) : 0 ≤ pickF c n ∧ pickF c n < n := by
 unfold pickF
 split
 ·exact ⟨Int.tmod_nonneg _ (by omega), Int.tmod_lt_of_pos _ hn⟩
 ·exact ⟨Int.tmod_nonneg _ (by omega), Int.tmod_lt_of_pos _ hn⟩
set_option maxRecDepth 100000 in
theorem pick10 {w : World} {c n : Int} (hc : in64 c) (hn : 0 < n) (hn9 : n ≤ 9223372036854775807) :
  Calls Tryz.prog 10 #[.int .i64 c, .int .i64 n] w fun e w' => e = .returned (.int .i64 (pickF c n)) ∧ Grew w w' := by
 obtain ⟨h1, h2⟩ := hc
 have hbd := pickF_bd (c := c) hn
 obtain ⟨r, hr⟩ : ∃ r, pickF c n = r := ⟨_, rfl⟩
 rw [hr] at hbd ⊢
 have e1 : (n == 0) = false := by simp; omega
 have e2 : n ≠ 0 := by omega
 have e3 : n ≠ -1 := by omega
 have m3 : IntKind.i64.wrap r = r := IntWalk.i64_in _ (by omega)
 go_enter Tryz.func10, Tryz.ntmps10
 by_cases hlt : c < 0
 ·have q1 : decide (c < 0) = true := decide_eq_true hlt
  have m1 : IntKind.i64.wrap (c + 1) = c + 1 := IntWalk.i64_in _ (by omega)
  have m2 : IntKind.i64.wrap (-(c + 1)) = -(c + 1) := IntWalk.i64_in _ (by omega)
  have hr2 : (-(c + 1)).tmod n = r := by rw [← hr]; unfold pickF; rw [if_pos hlt]
  clear hlt hr
  go_wp2
  go_ret
  exact ⟨rfl, Grew.refl _⟩
 ·have q1 : decide (c < 0) = false := decide_eq_false hlt
  have hr2 : c.tmod n = r := by rw [← hr]; unfold pickF; rw [if_neg hlt]
  clear hlt hr
  go_wp2
  go_ret
  exact ⟨rfl, Grew.refl _⟩
def RetNm (p : Pl) (w : World) (e : Ending) (w' : World) : Prop := ∃ A c l, e = .returned (.slice A p.dn c) ∧ Ints w' A p.dn c l ∧ Full (envP p) l ∧ Grew w w'
theorem ros_full {p : Pl} {l : List Int} (h : Full (envP p) l) : rosB p l = true := by
 unfold rosB
 rw [Bool.and_eq_true, List.all_eq_true]
 refine ⟨decide_eq_true h.1, fun x hx => decide_eq_true ?_⟩
 have h1 : 0 ≤ x ∧ x < (p.wn : Int) := h.2 x hx
 omega
theorem costF_take {E : Env} {l : List Int} {k : Nat} {x : Int} (h : l[k]? = some x) : costF E 0 (l.take (k + 1)) = costF E 0 (l.take k) + E.wage x.toNat * E.dur k := by
 have hk := (List.getElem?_eq_some_iff.1 h).1
 rw [List.take_add_one, h, costF_append, List.length_take, Nat.min_eq_left (by omega), Nat.zero_add]
 show _ + (E.wage x.toNat * E.dur k + 0) = _
 omega
set_option maxRecDepth 100000 in
set_option maxHeartbeats 4000000 in
theorem cost19 {w : World} {p : Pl} {A : Option Addr} {n c : Nat} {l : List Int} (hp : PlanAt w p) (ok : planB p = true) (hi : Ints w A n c l) (hf : Full (envP p) l) :
  Calls Tryz.prog 19 #[planV p, .slice A n c] w fun e w' => e = .returned (.tuple #[.int .i64 (costF (envP p) 0 l), .int .i64 0]) ∧ Grew w w' := by
 have HP := Lib.hid hp
 have HI := Lib.hid hi
 have HF := Lib.hid hf
 have HOK := Lib.hid ok
 have HB := Lib.hid (env_bd hp ok)
 have HR := Lib.hid (ros_full hf)
 have hlen : l.length = n := hi.1
 have hn : n = p.dn := by rw [← hlen]; exact hf.1
 have hd24 : p.dn ≤ 24 := HB.out.nD
 have hwn := hp.ws.le
 have HL := Lib.hid hlen
 have HN := Lib.hid hn
 have hn24 : n ≤ 24 := by omega
 obtain ⟨F, hFF⟩ : ∃ z, costF (envP p) 0 l = z := ⟨_, rfl⟩
 rw [hFF]
 have HFF := Lib.hid hFF
 clear hp hi hf ok hlen hFF hn
 show Calls Tryz.prog 19 #[.agg #[.string p.nm, .int .i64 p.zb, .slice p.C p.cn p.cc, .slice p.D p.dn p.dc, .slice p.W p.wn p.wc, .int .i64 p.lm.rest, .int .i64 p.lm.week, .int .i64 p.lm.nf, .int .i64 p.lm.nt, .int .i64 p.lm.mn], .slice A n c] w _
 obtain ⟨w1, hw1⟩ : ∃ y, y = w.alloc (.cells #[.string p.nm, .int .i64 p.zb, .slice p.C p.cn p.cc, .slice p.D p.dn p.dc, .slice p.W p.wn p.wc, .int .i64 p.lm.rest, .int .i64 p.lm.week, .int .i64 p.lm.nf, .int .i64 p.lm.nt, .int .i64 p.lm.mn] 32) := ⟨_, rfl⟩
 obtain ⟨tb, htb⟩ : ∃ z, z = w.heap.size := ⟨_, rfl⟩
 have g1 : Grew w w1 := by rw [hw1]; exact (Grew.refl w).alloc _
 have X1 : Hid (Blk w1 tb 32 (planC p)) := by unfold Hid; rw [hw1, htb]; exact Blk.new w 32 (planC p)
 have HG1 := Lib.hid g1
 clear g1
 go_enter Tryz.func19, Tryz.ntmps19
 go_upto_region 1 with (fail)
 rw [← hw1, ← htb]
 clear hw1 htb
 have v0 : w1.cell? ⟨tb, 0, none⟩ = some (.string p.nm) := X1.out.cell rfl
 have v1 : w1.cell? ⟨tb, 1, none⟩ = some (.int .i64 p.zb) := X1.out.cell rfl
 have v2 : w1.cell? ⟨tb, 2, none⟩ = some (.slice p.C p.cn p.cc) := X1.out.cell rfl
 have v3 : w1.cell? ⟨tb, 3, none⟩ = some (.slice p.D p.dn p.dc) := X1.out.cell rfl
 have v4 : w1.cell? ⟨tb, 4, none⟩ = some (.slice p.W p.wn p.wc) := X1.out.cell rfl
 have v5 : w1.cell? ⟨tb, 5, none⟩ = some (.int .i64 p.lm.rest) := X1.out.cell rfl
 have v6 : w1.cell? ⟨tb, 6, none⟩ = some (.int .i64 p.lm.week) := X1.out.cell rfl
 have v7 : w1.cell? ⟨tb, 7, none⟩ = some (.int .i64 p.lm.nf) := X1.out.cell rfl
 have v8 : w1.cell? ⟨tb, 8, none⟩ = some (.int .i64 p.lm.nt) := X1.out.cell rfl
 have v9 : w1.cell? ⟨tb, 9, none⟩ = some (.int .i64 p.lm.mn) := X1.out.cell rfl
 go_wp2_with fail
 refine (val49 p true w1 (HP.out.grew HG1.out) HOK.out).mono ?_
 rintro r w2 ⟨rfl, g2⟩
 have X2 := Lib.hid (X1.out.grew g2)
 have HG2 := Lib.hid (HG1.out.trans g2)
 clear v0 v1 v2 v3 v4 v5 v6 v7 v8 v9 g2 X1 HG1
 have v0 : w2.cell? ⟨tb, 0, none⟩ = some (.string p.nm) := X2.out.cell rfl
 have v1 : w2.cell? ⟨tb, 1, none⟩ = some (.int .i64 p.zb) := X2.out.cell rfl
 have v2 : w2.cell? ⟨tb, 2, none⟩ = some (.slice p.C p.cn p.cc) := X2.out.cell rfl
 have v3 : w2.cell? ⟨tb, 3, none⟩ = some (.slice p.D p.dn p.dc) := X2.out.cell rfl
 have v4 : w2.cell? ⟨tb, 4, none⟩ = some (.slice p.W p.wn p.wc) := X2.out.cell rfl
 have v5 : w2.cell? ⟨tb, 5, none⟩ = some (.int .i64 p.lm.rest) := X2.out.cell rfl
 have v6 : w2.cell? ⟨tb, 6, none⟩ = some (.int .i64 p.lm.week) := X2.out.cell rfl
 have v7 : w2.cell? ⟨tb, 7, none⟩ = some (.int .i64 p.lm.nf) := X2.out.cell rfl
 have v8 : w2.cell? ⟨tb, 8, none⟩ = some (.int .i64 p.lm.nt) := X2.out.cell rfl
 have v9 : w2.cell? ⟨tb, 9, none⟩ = some (.int .i64 p.lm.mn) := X2.out.cell rfl
 go_wp2_with fail
 refine (isros42 p A n c l true w2 (HP.out.grew HG2.out) (HI.out.grew HG2.out) HR.out).mono ?_
 rintro r w3 ⟨rfl, g3⟩
 have X3 := Lib.hid (X2.out.grew g3)
 have HG3 := Lib.hid (HG2.out.trans g3)
 clear v0 v1 v2 v3 v4 v5 v6 v7 v8 v9 g3 X2 HG2
 go_wp2_with fail
 go_loopw [6, 20] (fun s i y => ∃ (k : Nat) (N : Int), k ≤ n ∧ i = .int .i64 k ∧ s = .int .i64 N ∧ Hid (costF (envP p) 0 (l.take k) = N) ∧ Hid (Grew w3 y)) (fun _ i _ => n - (intOf i).toNat)
 case atStart => exact ⟨0, 0, Nat.zero_le _, rfl, rfl, rfl, Grew.refl _⟩
 case round =>
  obtain ⟨k, N, hk, rfl, rfl, HZ, HY⟩ := hrel
  by_cases hlt : k < n
  ·obtain ⟨b, o, hA, hcc⟩ := (HI.out.grew (HG3.out.trans HY.out)).at_ (by omega)
   obtain ⟨x, hx⟩ : ∃ x, l[k]? = some x := ⟨_, List.getElem?_eq_getElem (by rw [HL.out]; exact hlt)⟩
   have c0 := hcc k _ hx
   have hxb : 0 ≤ x ∧ x < (p.wn : Int) := HF.out.2 x (List.mem_of_getElem? hx)
   obtain ⟨j, rfl⟩ : ∃ j : Nat, x = (j : Int) := ⟨x.toNat, by omega⟩
   have hj : j < p.wn := by omega
   have hkd : k < p.dn := by have := HN.out; omega
   have HPr := Lib.hid (HP.out.grew (HG3.out.trans HY.out))
   have Xr := Lib.hid (X3.out.grew HY.out)
   obtain ⟨bw, ow, y, hW, hy, ⟨_, _, _, d3, _⟩, _⟩ := HPr.out.ws.at_ hj
   obtain ⟨bd, od, z, hD, hz, ⟨f0, f1, _⟩, hzb⟩ := HPr.out.ds.at_ (show k < p.dn by omega)
   have hwg : (envP p).wage j = y.wg := wage_envP hy
   have hdu : (envP p).dur k = z.b - z.a := by show (p.du k).b - (p.du k).a = _; rw [du_at hz]
   have hst : costF (envP p) 0 (l.take (k + 1)) = N + y.wg * (z.b - z.a) := by
    have := costF_take (E := envP p) hx
    rw [Int.toNat_natCast, hwg, hdu, HZ.out] at this
    exact this
   have hw1 := HB.out.wage j
   have hd1 := HB.out.dur k
   rw [hwg] at hw1
   rw [hdu] at hd1
   have hmul := mul_bd hw1 hd1
   have hN := costF_bd HB.out 0 (l.take k)
   rw [HZ.out, List.length_take, HL.out, Nat.min_eq_left hk] at hN
   have hk24 : (k : Int) * 1440000000 ≤ 34560000000 := by omega
   obtain ⟨za, zb, zs⟩ := z
   obtain ⟨ynm, ysk, ymi, wg, yA, yn, yc, yaw⟩ := y
   simp only at hst hw1 hd1 hmul d3 f0 f1
   obtain ⟨M, hM⟩ : ∃ M, wg * (zb - za) = M := ⟨_, rfl⟩
   have m1 : IntKind.i64.wrap (zb - za) = zb - za := IntWalk.i64_in _ (by omega)
   rw [hM] at hst hmul
   have m2 : IntKind.i64.wrap (wg * (zb - za)) = M := by rw [hM]; exact IntWalk.i64_in _ (by omega)
   have m3 : IntKind.i64.wrap (N + M) = N + M := IntWalk.i64_in _ (by omega)
   have HST := Lib.hid hst
   have e1 : (0 : Int) ≤ (k : Int) := by omega
   have e2 : (k : Int) < (n : Int) := by omega
   have e3 : (0 : Int) ≤ (j : Int) := by omega
   have e4 : (j : Int) < (p.wn : Int) := by omega
   have e5 : (k : Int) < (p.dn : Int) := by omega
   have q1 : decide ((j : Int) ≥ 0) = true := decide_eq_true e3
   have q2 : decide ((0 : Int) ≤ (j : Int)) = true := decide_eq_true e3
   have v2 : wr.cell? ⟨tb, 3, none⟩ = some (.slice p.D p.dn p.dc) := Xr.out.cell rfl
   have v4 : wr.cell? ⟨tb, 4, none⟩ = some (.slice p.W p.wn p.wc) := Xr.out.cell rfl
   have hC : ∀ w', Grew wr.drew w' → w'.cell? ⟨tb, 3, none⟩ = some (.slice p.D p.dn p.dc) ∧ w'.cell? ⟨tb, 4, none⟩ = some (.slice p.W p.wn p.wc) ∧ w'.cell? ⟨bw, ow + j * 5 + 3, none⟩ = some (.int .i64 wg) ∧ w'.cell? ⟨bd, od + k * 3, none⟩ = some (.int .i64 za) ∧ w'.cell? ⟨bd, od + k * 3 + 1, none⟩ = some (.int .i64 zb) := fun w' g' => by
    have gg := (Grew.refl wr).drew.trans g'
    exact ⟨gg.cell v2, gg.cell v4, gg.cell d3, gg.cell f0, gg.cell f1⟩
   have HC := Lib.hid hC
   subst hA
   rw [hW, hD] at HC
   clear hcc hx hxb hy hz hzb hwg hdu hst hw1 hd1 hN hM hC v2 v4 d3 f0 f1 HZ HPr hmul
   go_upto_region 8 with (fail)
   refine wp_region_seq (by kernel_rfl) Grew.refl (fun _ _ _ => Grew.trans) (fun _ _ _ _ _ h => h) (by kernel_rfl) ?_
   repeat (first
    | (refine TakeAll.pure (v := ?_) (by rfl) ?_ ?_; rotate_left; (intro w' g'; obtain ⟨q_0, q_1, q_2, q_3, q_4⟩ := HC.out w' g'; go_simp; first | done | with_reducible rfl); (simp only [Act.put, List.setIfInBounds_toArray, List.set_cons_zero, List.set_cons_succ]))
    | (refine TakeAll.skip (by rfl) ?_; (simp only [Act.put, List.setIfInBounds_toArray, List.set_cons_zero, List.set_cons_succ])))
   refine TakeAll.nil ?_
   intro w5 g5
   have G5 := Lib.hid (HY.out.trans ((Grew.refl wr).drew.trans g5))
   clear g5 HC c0 m1 m2 m3
   go_wp2_with fail
   go_roundw
   case rel => exact ⟨k + 1, N + M, by omega, by go_num, rfl, HST.out, G5.out⟩
   case measure => simp [intOf]; omega
  ·obtain rfl : n = k := by omega
   have HE : Hid (N = F) := by
    unfold Hid
    rw [← HZ.out, ← HFF.out, List.take_of_length_le (by rw [HL.out]; exact Nat.le_refl _)]
   have HGE := Lib.hid (HG3.out.trans HY.out)
   clear HZ
   go_wp2
   go_ret2
   exact ⟨congrArg (fun b => Ending.returned (Value.tuple #[.int .i64 b, .int .i64 0])) HE.out, HGE.out⟩
set_option maxRecDepth 100000 in
set_option maxHeartbeats 4000000 in
theorem numbered20 {w : World} {p : Pl} {n : Int} (hd : p.dn ≤ 24) (hw : 0 < p.wn) (hw2 : p.wn ≤ 12) (hn : 0 ≤ n ∧ n ≤ 1000) :
  Calls Tryz.prog 20 #[planV p, .int .i64 n] w (RetNm p w) := by
 show Calls Tryz.prog 20 #[.agg #[.string p.nm, .int .i64 p.zb, .slice p.C p.cn p.cc, .slice p.D p.dn p.dc, .slice p.W p.wn p.wc, .int .i64 p.lm.rest, .int .i64 p.lm.week, .int .i64 p.lm.nf, .int .i64 p.lm.nt, .int .i64 p.lm.mn], .int .i64 n] w _
 obtain ⟨w1, hw1⟩ : ∃ y, y = w.alloc (.cells #[.string p.nm, .int .i64 p.zb, .slice p.C p.cn p.cc, .slice p.D p.dn p.dc, .slice p.W p.wn p.wc, .int .i64 p.lm.rest, .int .i64 p.lm.week, .int .i64 p.lm.nf, .int .i64 p.lm.nt, .int .i64 p.lm.mn] 32) := ⟨_, rfl⟩
 obtain ⟨tb, htb⟩ : ∃ z, z = w.heap.size := ⟨_, rfl⟩
 have g1 : Grew w w1 := by rw [hw1]; exact (Grew.refl w).alloc _
 have X1 : Hid (Blk w1 tb 32 (planC p)) := by unfold Hid; rw [hw1, htb]; exact Blk.new w 32 (planC p)
 have HG1 := Lib.hid g1
 clear g1
 go_enter Tryz.func20, Tryz.ntmps20
 go_upto_region 1 with (fail)
 rw [← hw1, ← htb]
 clear hw1 htb
 have v0 : w1.cell? ⟨tb, 0, none⟩ = some (.string p.nm) := X1.out.cell rfl
 have v1 : w1.cell? ⟨tb, 1, none⟩ = some (.int .i64 p.zb) := X1.out.cell rfl
 have v2 : w1.cell? ⟨tb, 2, none⟩ = some (.slice p.C p.cn p.cc) := X1.out.cell rfl
 have v3 : w1.cell? ⟨tb, 3, none⟩ = some (.slice p.D p.dn p.dc) := X1.out.cell rfl
 have v4 : w1.cell? ⟨tb, 4, none⟩ = some (.slice p.W p.wn p.wc) := X1.out.cell rfl
 have v5 : w1.cell? ⟨tb, 5, none⟩ = some (.int .i64 p.lm.rest) := X1.out.cell rfl
 have v6 : w1.cell? ⟨tb, 6, none⟩ = some (.int .i64 p.lm.week) := X1.out.cell rfl
 have v7 : w1.cell? ⟨tb, 7, none⟩ = some (.int .i64 p.lm.nf) := X1.out.cell rfl
 have v8 : w1.cell? ⟨tb, 8, none⟩ = some (.int .i64 p.lm.nt) := X1.out.cell rfl
 have v9 : w1.cell? ⟨tb, 9, none⟩ = some (.int .i64 p.lm.mn) := X1.out.cell rfl
 obtain ⟨wm, hmk, hown, gm⟩ := make_full w.heap.size p.dn (by omega) w1 HG1.out.le
 obtain ⟨rb, hrb⟩ : ∃ z, z = w1.heap.size := ⟨_, rfl⟩
 rw [← hrb] at hmk hown
 have HRB : Hid (w.heap.size ≤ rb) := by unfold Hid; rw [hrb]; exact HG1.out.le
 have HTB : Hid (tb ≠ rb) := by unfold Hid; have := X1.out.lt; omega
 have HOW := Lib.hid hown
 have HGM := Lib.hid (HG1.out.trans gm)
 have XM := Lib.hid (X1.out.grew gm)
 clear hown gm hrb HG1 X1
 have m1 : IntKind.i64.wrap ((p.dn : Int) - 1) = (p.dn : Int) - 1 := IntWalk.i64_in _ (by omega)
 go_upto_region 2 with (fail)
 clear hmk v0 v1 v2 v3 v4 v5 v6 v7 v8 v9
 go_wp2_with fail
 clear m1
 go_loopw [1, 6] (fun m i y => ∃ (N k : Int) (xs : List Int), m = .int .i64 N ∧ (0 ≤ N ∧ N ≤ 1000) ∧ i = .int .i64 k ∧ (-1 ≤ k ∧ k < (p.dn : Int)) ∧ Hid (xs.length = p.dn ∧ ∀ x ∈ xs, 0 ≤ x ∧ x < (p.wn : Int)) ∧ Hid (y.ownsRow w.heap.size 3 1 (.slice (some ⟨rb, 0, none⟩) p.dn p.dn) p.dn (xs.map iv)) ∧ Hid (Blk y tb 32 (planC p)) ∧ Hid (Grew w y)) (fun _ i _ => (intOf i + 1).toNat)
 case atStart => exact ⟨n, (p.dn : Int) - 1, List.replicate p.dn 0, rfl, hn, rfl, by omega, ⟨List.length_replicate, fun x hx => by have := List.eq_of_mem_replicate hx; omega⟩, HOW.out, XM.out, HGM.out⟩
 case round =>
  clear HOW XM HGM hn
  obtain ⟨N, k, xs, rfl, hN, rfl, hk, HX, OW, HT, HR⟩ := hrel
  by_cases hlt : 0 ≤ k
  ·obtain ⟨j, rfl⟩ : ∃ j : Nat, k = (j : Int) := ⟨k.toNat, by omega⟩
   have hj : j < p.dn := by omega
   have q1 : decide ((j : Int) ≥ 0) = true := decide_eq_true hlt
   have q2 : decide ((0 : Int) ≤ (j : Int)) = true := decide_eq_true hlt
   have v4 : wr.cell? ⟨tb, 4, none⟩ = some (.slice p.W p.wn p.wc) := HT.out.cell rfl
   obtain ⟨x, hx⟩ : ∃ x, xs[j]? = some x := ⟨_, List.getElem?_eq_getElem (by rw [HX.out.1]; exact hj)⟩
   obtain ⟨M, hM⟩ : ∃ M, N.tmod (p.wn : Int) = M := ⟨_, rfl⟩
   have hMb : 0 ≤ M ∧ M < (p.wn : Int) := by rw [← hM]; exact ⟨Int.tmod_nonneg _ hN.1, Int.tmod_lt_of_pos _ (by omega)⟩
   obtain ⟨Q, hQ⟩ : ∃ Q, N.tdiv (p.wn : Int) = Q := ⟨_, rfl⟩
   have hQb : 0 ≤ Q ∧ Q ≤ N := by
    rw [← hQ]
    have h1 : N.tdiv (p.wn : Int) = N / (p.wn : Int) := Int.tdiv_eq_ediv_of_nonneg hN.1
    rw [h1]
    exact ⟨Int.ediv_nonneg hN.1 (by omega), Int.ediv_le_self _ hN.1⟩
   have m1 : IntKind.i64.wrap M = M := IntWalk.i64_in _ (by omega)
   have m2 : IntKind.i64.wrap Q = Q := IntWalk.i64_in _ (by omega)
   have m3 : IntKind.i64.wrap ((j : Int) - 1) = (j : Int) - 1 := IntWalk.i64_in _ (by omega)
   have z1 : ((p.wn : Int) == 0) = false := by simp; omega
   have z2 : (p.wn : Int) ≠ 0 := by omega
   have z3 : (p.wn : Int) ≠ -1 := by omega
   have z4 : p.wn ≠ 0 := by omega
   have e1 : (j : Int) < (p.dn : Int) := by omega
   have c0 := (OW.out.cellAt j (by omega)).trans (show (xs.map iv)[j]? = some (.int .i64 x) by rw [List.getElem?_map, hx]; rfl)
   have f0 := OW.out.frozenAt j
   have OS := OW.out.stored j (iv M)
   have hset : (xs.map iv).set j (iv M) = (xs.set j M).map iv := by rw [List.map_set]
   rw [hset] at OS
   have HOS := Lib.hid OS.1
   have HXn : Hid ((xs.set j M).length = p.dn ∧ ∀ x ∈ xs.set j M, 0 ≤ x ∧ x < (p.wn : Int)) := ⟨by rw [List.length_set]; exact HX.out.1, fun y hy => by
    rcases List.mem_or_eq_of_mem_set hy with h | h
    ·exact HX.out.2 y h
    ·subst h; exact hMb⟩
   have HTn := Lib.hid (HT.out.kept OS.2 (fun e => HTB.out (by injection e)))
   have HRn := Lib.hid (HR.out.grown OS.2 (fun q hq => by injection hq with hq; have := HRB.out; omega))
   obtain ⟨wn, hwn⟩ : ∃ y, y = wr.setCell ⟨rb, j, none⟩ (iv M) := ⟨_, rfl⟩
   rw [← hwn] at HOS HTn HRn
   have hwn' : wn = wr.setCell ⟨rb, j, none⟩ (.int .i64 M) := hwn
   clear OS OW HT HR HX hwn hx hset
   go_upto_region 6 with (fail)
   rw [← hwn']
   clear hwn' c0 f0 v4
   have v4 : wn.cell? ⟨tb, 4, none⟩ = some (.slice p.W p.wn p.wc) := HTn.out.cell rfl
   go_wp2_with fail
   go_roundw
   case rel => exact ⟨Q, (j : Int) - 1, xs.set j M, rfl, by omega, rfl, by omega, HXn.out, HOS.out, HTn.out, HRn.out⟩
   case measure => simp [intOf]
  ·have q1 : decide (k ≥ 0) = false := decide_eq_false (by omega)
   have q2 : decide ((0 : Int) ≤ k) = false := decide_eq_false (by omega)
   go_wp2
   go_ret
   exact ⟨some ⟨rb, 0, none⟩, p.dn, xs, rfl, Ints.own HX.out.1 OW.out, ⟨HX.out.1, HX.out.2⟩, HR.out⟩
end Go.Proofs.YtnnbibmmofnkdaaGreat
