/-
 The statements' helpers: pick, Cost, Numbered.
-/
import Derived.Test.YtnnbibmmofnkdaaGreatTopB
namespace Go.Proofs.YtnnbibmmofnkdaaGreat
open Go.RowKit Go.Proofs WageMem WageReg WageRec WageSpan WageTop
theorem ros_full {p : Pl} {l : List Int} (h : Full (envP p) l) : rosB p l = true := by
 unfold rosB
 rw [Bool.and_eq_true, List.all_eq_true]
 refine ⟨decide_eq_true h.1, fun x hx => decide_eq_true ?_⟩
 have h1 : 0 ≤ x ∧ x < (p.wn : Int) := h.2 x hx
 omega
theorem costF_take {E : Env} {l : List Int} {k : Nat} {x : Int} (h : l[k]? = some x) : costF E 0 (l.take (k + 1)) = costF E 0 (l.take k) + E.wage x.toNat * E.dur k := by
 have hk := (List.getElem?_eq_some_iff.1 h).1
 rw [List.take_add_one, h, costF_append, List.length_take, Nat.min_eq_left (by omega), Nat.zero_add]
 show _ + (E.wage x.toNat * E.dur k + 0) = _
 omega
set_option maxRecDepth 100000 in
set_option maxHeartbeats 4000000 in
theorem cost19 {w : World} {p : Pl} {A : Option Addr} {n c : Nat} {l : List Int} (hp : PlanAt w p) (ok : planB p = true) (hi : Ints w A n c l) (hf : Full (envP p) l) :
  Calls Tryz.prog 19 #[planV p, .slice A n c] w fun e w' => e = .returned (.tuple #[.int .i64 (costF (envP p) 0 l), .int .i64 0]) ∧ Grew w w' := by
 have HP := Lib.hid hp
 have HI := Lib.hid hi
 have HF := Lib.hid hf
 have HOK := Lib.hid ok
 have HB := Lib.hid (env_bd hp ok)
 have HR := Lib.hid (ros_full hf)
 have hlen : l.length = n := hi.1
 have hn : n = p.dn := by rw [← hlen]; exact hf.1
 have hd24 : p.dn ≤ 24 := HB.out.nD
 have hwn := hp.ws.le
 have HL := Lib.hid hlen
 have HN := Lib.hid hn
 have hn24 : n ≤ 24 := by omega
 obtain ⟨F, hFF⟩ : ∃ z, costF (envP p) 0 l = z := ⟨_, rfl⟩
 rw [hFF]
 have HFF := Lib.hid hFF
 clear hp hi hf ok hlen hFF hn
 show Calls Tryz.prog 19 #[.agg #[.string p.nm, .int .i64 p.zb, .slice p.C p.cn p.cc, .slice p.D p.dn p.dc, .slice p.W p.wn p.wc, .int .i64 p.lm.rest, .int .i64 p.lm.week, .int .i64 p.lm.nf, .int .i64 p.lm.nt, .int .i64 p.lm.mn], .slice A n c] w _
 obtain ⟨w1, hw1⟩ : ∃ y, y = w.alloc (.cells #[.string p.nm, .int .i64 p.zb, .slice p.C p.cn p.cc, .slice p.D p.dn p.dc, .slice p.W p.wn p.wc, .int .i64 p.lm.rest, .int .i64 p.lm.week, .int .i64 p.lm.nf, .int .i64 p.lm.nt, .int .i64 p.lm.mn] 32) := ⟨_, rfl⟩
 obtain ⟨tb, htb⟩ : ∃ z, z = w.heap.size := ⟨_, rfl⟩
 have g1 : Grew w w1 := by rw [hw1]; exact (Grew.refl w).alloc _
 have X1 : Hid (Blk w1 tb 32 (planC p)) := by unfold Hid; rw [hw1, htb]; exact Blk.new w 32 (planC p)
 have HG1 := Lib.hid g1
 clear g1
 go_enter Tryz.func19, Tryz.ntmps19
 go_upto_region 1 with (fail)
 rw [← hw1, ← htb]
 clear hw1 htb
 have v0 : w1.cell? ⟨tb, 0, none⟩ = some (.string p.nm) := X1.out.cell rfl
 have v1 : w1.cell? ⟨tb, 1, none⟩ = some (.int .i64 p.zb) := X1.out.cell rfl
 have v2 : w1.cell? ⟨tb, 2, none⟩ = some (.slice p.C p.cn p.cc) := X1.out.cell rfl
 have v3 : w1.cell? ⟨tb, 3, none⟩ = some (.slice p.D p.dn p.dc) := X1.out.cell rfl
 have v4 : w1.cell? ⟨tb, 4, none⟩ = some (.slice p.W p.wn p.wc) := X1.out.cell rfl
 have v5 : w1.cell? ⟨tb, 5, none⟩ = some (.int .i64 p.lm.rest) := X1.out.cell rfl
 have v6 : w1.cell? ⟨tb, 6, none⟩ = some (.int .i64 p.lm.week) := X1.out.cell rfl
 have v7 : w1.cell? ⟨tb, 7, none⟩ = some (.int .i64 p.lm.nf) := X1.out.cell rfl
 have v8 : w1.cell? ⟨tb, 8, none⟩ = some (.int .i64 p.lm.nt) := X1.out.cell rfl
 have v9 : w1.cell? ⟨tb, 9, none⟩ = some (.int .i64 p.lm.mn) := X1.out.cell rfl
 go_wp2_with fail
 refine (val49 p true w1 (HP.out.grew HG1.out) HOK.out).mono ?_
 rintro r w2 ⟨rfl, g2⟩
 have X2 := Lib.hid (X1.out.grew g2)
 have HG2 := Lib.hid (HG1.out.trans g2)
 clear v0 v1 v2 v3 v4 v5 v6 v7 v8 v9 g2 X1 HG1
 have v0 : w2.cell? ⟨tb, 0, none⟩ = some (.string p.nm) := X2.out.cell rfl
 have v1 : w2.cell? ⟨tb, 1, none⟩ = some (.int .i64 p.zb) := X2.out.cell rfl
 have v2 : w2.cell? ⟨tb, 2, none⟩ = some (.slice p.C p.cn p.cc) := X2.out.cell rfl
 have v3 : w2.cell? ⟨tb, 3, none⟩ = some (.slice p.D p.dn p.dc) := X2.out.cell rfl
 have v4 : w2.cell? ⟨tb, 4, none⟩ = some (.slice p.W p.wn p.wc) := X2.out.cell rfl
 have v5 : w2.cell? ⟨tb, 5, none⟩ = some (.int .i64 p.lm.rest) := X2.out.cell rfl
 have v6 : w2.cell? ⟨tb, 6, none⟩ = some (.int .i64 p.lm.week) := X2.out.cell rfl
 have v7 : w2.cell? ⟨tb, 7, none⟩ = some (.int .i64 p.lm.nf) := X2.out.cell rfl
 have v8 : w2.cell? ⟨tb, 8, none⟩ = some (.int .i64 p.lm.nt) := X2.out.cell rfl
 have v9 : w2.cell? ⟨tb, 9, none⟩ = some (.int .i64 p.lm.mn) := X2.out.cell rfl
 go_wp2_with fail
 refine (isros42 p A n c l true w2 (HP.out.grew HG2.out) (HI.out.grew HG2.out) HR.out).mono ?_
 rintro r w3 ⟨rfl, g3⟩
 have X3 := Lib.hid (X2.out.grew g3)
 have HG3 := Lib.hid (HG2.out.trans g3)
 clear v0 v1 v2 v3 v4 v5 v6 v7 v8 v9 g3 X2 HG2
 go_wp2_with fail
 go_loopw [6, 20] (fun s i y => ∃ (k : Nat) (N : Int), k ≤ n ∧ i = .int .i64 k ∧ s = .int .i64 N ∧ Hid (costF (envP p) 0 (l.take k) = N) ∧ Hid (Grew w3 y)) (fun _ i _ => n - (intOf i).toNat)
 case atStart => exact ⟨0, 0, Nat.zero_le _, rfl, rfl, rfl, Grew.refl _⟩
 case round =>
  obtain ⟨k, N, hk, rfl, rfl, HZ, HY⟩ := hrel
  by_cases hlt : k < n
  ·obtain ⟨b, o, hA, hcc⟩ := (HI.out.grew (HG3.out.trans HY.out)).at_ (by omega)
   obtain ⟨x, hx⟩ : ∃ x, l[k]? = some x := ⟨_, List.getElem?_eq_getElem (by rw [HL.out]; exact hlt)⟩
   have c0 := hcc k _ hx
   have hxb : 0 ≤ x ∧ x < (p.wn : Int) := HF.out.2 x (List.mem_of_getElem? hx)
   obtain ⟨j, rfl⟩ : ∃ j : Nat, x = (j : Int) := ⟨x.toNat, by omega⟩
   have hj : j < p.wn := by omega
   have hkd : k < p.dn := by have := HN.out; omega
   have HPr := Lib.hid (HP.out.grew (HG3.out.trans HY.out))
   have Xr := Lib.hid (X3.out.grew HY.out)
   obtain ⟨bw, ow, y, hW, hy, ⟨_, _, _, d3, _⟩, _⟩ := HPr.out.ws.at_ hj
   obtain ⟨bd, od, z, hD, hz, ⟨f0, f1, _⟩, hzb⟩ := HPr.out.ds.at_ (show k < p.dn by omega)
   have hwg : (envP p).wage j = y.wg := wage_envP hy
   have hdu : (envP p).dur k = z.b - z.a := by show (p.du k).b - (p.du k).a = _; rw [du_at hz]
   have hst : costF (envP p) 0 (l.take (k + 1)) = N + y.wg * (z.b - z.a) := by
    have := costF_take (E := envP p) hx
    rw [Int.toNat_natCast, hwg, hdu, HZ.out] at this
    exact this
   have hw1 := HB.out.wage j
   have hd1 := HB.out.dur k
   rw [hwg] at hw1
   rw [hdu] at hd1
   have hmul := mul_bd hw1 hd1
   have hN := costF_bd HB.out 0 (l.take k)
   rw [HZ.out, List.length_take, HL.out, Nat.min_eq_left hk] at hN
   have hk24 : (k : Int) * 1440000000 ≤ 34560000000 := by omega
   obtain ⟨za, zb, zs⟩ := z
   obtain ⟨ynm, ysk, ymi, wg, yA, yn, yc, yaw⟩ := y
   simp only at hst hw1 hd1 hmul d3 f0 f1
   obtain ⟨M, hM⟩ : ∃ M, wg * (zb - za) = M := ⟨_, rfl⟩
   have m1 : IntKind.i64.wrap (zb - za) = zb - za := IntWalk.i64_in _ (by omega)
   rw [hM] at hst hmul
   have m2 : IntKind.i64.wrap (wg * (zb - za)) = M := by rw [hM]; exact IntWalk.i64_in _ (by omega)
   have m3 : IntKind.i64.wrap (N + M) = N + M := IntWalk.i64_in _ (by omega)
   have HST := Lib.hid hst
   have e1 : (0 : Int) ≤ (k : Int) := by omega
   have e2 : (k : Int) < (n : Int) := by omega
   have e3 : (0 : Int) ≤ (j : Int) := by omega
   have e4 : (j : Int) < (p.wn : Int) := by omega
   have e5 : (k : Int) < (p.dn : Int) := by omega
   have q1 : decide ((j : Int) ≥ 0) = true := decide_eq_true e3
   have q2 : decide ((0 : Int) ≤ (j : Int)) = true := decide_eq_true e3
   have v2 : wr.cell? ⟨tb, 3, none⟩ = some (.slice p.D p.dn p.dc) := Xr.out.cell rfl
   have v4 : wr.cell? ⟨tb, 4, none⟩ = some (.slice p.W p.wn p.wc) := Xr.out.cell rfl
   have hC : ∀ w', Grew wr.drew w' → w'.cell? ⟨tb, 3, none⟩ = some (.slice p.D p.dn p.dc) ∧ w'.cell? ⟨tb, 4, none⟩ = some (.slice p.W p.wn p.wc) ∧ w'.cell? ⟨bw, ow + j * 5 + 3, none⟩ = some (.int .i64 wg) ∧ w'.cell? ⟨bd, od + k * 3, none⟩ = some (.int .i64 za) ∧ w'.cell? ⟨bd, od + k * 3 + 1, none⟩ = some (.int .i64 zb) := fun w' g' => by
    have gg := (Grew.refl wr).drew.trans g'
    exact ⟨gg.cell v2, gg.cell v4, gg.cell d3, gg.cell f0, gg.cell f1⟩
   have HC := Lib.hid hC
   subst hA
   rw [hW, hD] at HC
   clear hcc hx hxb hy hz hzb hwg hdu hst hw1 hd1 hN hM hC v2 v4 d3 f0 f1 HZ HPr hmul
   go_upto_region 8 with (fail)
   refine wp_region_seq (by kernel_rfl) Grew.refl (fun _ _ _ => Grew.trans) (fun _ _ _ _ _ h => h) (by kernel_rfl) ?_
   repeat (first
    | (refine TakeAll.pure (v := ?_) (by rfl) ?_ ?_; rotate_left; (intro w' g'; obtain ⟨q_0, q_1, q_2, q_3, q_4⟩ := HC.out w' g'; go_simp; first | done | with_reducible rfl); (simp only [Act.put, uzT, uz0, uz1]))
    | (refine TakeAll.skip (by rfl) ?_; (simp only [Act.put, uzT, uz0, uz1])))
   refine TakeAll.nil ?_
   intro w5 g5
   have G5 := Lib.hid (HY.out.trans ((Grew.refl wr).drew.trans g5))
   clear g5 HC c0 m1 m2 m3
   go_wp2_with fail
   go_roundw
   case rel => exact ⟨k + 1, N + M, by omega, by go_num, rfl, HST.out, G5.out⟩
   case measure => simp [intOf]; omega
  ·obtain rfl : n = k := by omega
   have HE : Hid (N = F) := by
    unfold Hid
    rw [← HZ.out, ← HFF.out, List.take_of_length_le (by rw [HL.out]; exact Nat.le_refl _)]
   have HGE := Lib.hid (HG3.out.trans HY.out)
   clear HZ
   go_wp2
   go_ret2
   exact ⟨congrArg (fun b => Ending.returned (Value.tuple #[.int .i64 b, .int .i64 0])) HE.out, HGE.out⟩
end Go.Proofs.YtnnbibmmofnkdaaGreat
