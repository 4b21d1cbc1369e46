/-
 Punches: the table of least costs.
-/
import Derived.Test.YtnnbibmmofnkdaaGreatPunB
namespace Go.Proofs.YtnnbibmmofnkdaaGreat
open Go.RowKit Go.Proofs WageMem WageReg WageRec WageSpan WageTop
theorem zero211 : Tryz.zeroCells211 = ((List.replicate 2989 (0 : Int)).map iv).toArray := by kernel_rfl
/-- The table: what is known of the places that are filled. -/
def TOk (N : Nat) (P : Nat → Nat → Prop) (ts : List Int) : Prop := ts.length = 2989 ∧ ∀ i k, i ≤ N → k ≤ N → P i k → ∃ v, ts[i * 61 + k]? = some v ∧ 0 ≤ v ∧ v ≤ 120 * (2 * (N : Int) - i - k) ∧ (i = k → v = 0)
theorem TOk.step {N : Nat} (hN : N ≤ 48) {P P' : Nat → Nat → Prop} {ts : List Int} (h : TOk N P ts) {i k : Nat} (hi : i ≤ N) (hk : k ≤ N) {v : Int} (h0 : 0 ≤ v) (h1 : v ≤ 120 * (2 * (N : Int) - i - k)) (h2 : i = k → v = 0) (hp : ∀ i' k', i' ≤ N → k' ≤ N → P' i' k' → P i' k' ∨ (i' = i ∧ k' = k)) : TOk N P' (ts.set (i * 61 + k) v) := by
 refine ⟨by rw [List.length_set]; exact h.1, fun i' k' hi' hk' hP => ?_⟩
 by_cases he : i' = i ∧ k' = k
 ·obtain ⟨rfl, rfl⟩ := he
  exact ⟨v, by rw [List.getElem?_set_self (by rw [h.1]; omega)], h0, h1, h2⟩
 ·rcases hp i' k' hi' hk' hP with h3 | h3
  ·obtain ⟨u, hu, hr⟩ := h.2 i' k' hi' hk' h3
   exact ⟨u, by rw [List.getElem?_set_ne (by omega)]; exact hu, hr⟩
  ·exact absurd h3 he
theorem TOk.weak {N : Nat} {P P' : Nat → Nat → Prop} {ts : List Int} (h : TOk N P ts) (hp : ∀ i k, i ≤ N → k ≤ N → P' i k → P i k) : TOk N P' ts := ⟨h.1, fun i k hi hk hP => h.2 i k hi hk (hp i k hi hk hP)⟩
theorem blk_tab {y : World} {tb : Nat} {ts : List Int} (h : Blk y tb 211 (ts.map iv)) {j : Nat} {v : Int} (hv : ts[j]? = some v) : y.cell? ⟨tb, j, none⟩ = some (.int .i64 v) := h.cell (by rw [List.getElem?_map, hv]; rfl)
/-- What newTable returns. -/
def RetTb (N : Nat) (w : World) (r : Ending) (w' : World) : Prop := ∃ tb ts, r = .returned (.pointer (some ⟨tb, 0, none⟩)) ∧ w.heap.size ≤ tb ∧ Blk w' tb 211 (ts.map iv) ∧ TOk N (fun _ _ => True) ts ∧ Grew w w'
theorem cst_bd {m : Mk} {u : Pu} (hm : 0 ≤ m.at_ ∧ m.at_ ≤ 52596000) (hu : 0 ≤ u.at_ ∧ u.at_ ≤ 52596000) : 0 ≤ cstF m u ∧ cstF m u ≤ 52596060 := by
 unfold cstF
 split <;> omega
theorem cst_zero {m : Mk} {u : Pu} (h1 : m.at_ = u.at_) (h2 : m.inn = u.inn) : cstF m u = 0 := by
 unfold cstF
 rw [if_pos h2, h1]
 omega
set_option maxRecDepth 100000 in
set_option maxHeartbeats 8000000 in
theorem table65 {w : World} {A B : Option Addr} {N c e : Nat} {ms : List Mk} {us : List Pu} (hm : Recs encM 3 w A N c ms) (hu : Recs encU 2 w B N e us) (hN : N ≤ 48) (hmr : ∀ m ∈ ms, 0 ≤ m.at_ ∧ m.at_ ≤ 52596000) (hur : ∀ u ∈ us, 0 ≤ u.at_ ∧ u.at_ ≤ 52596000) (heq : ∀ (i : Nat) m u, ms[i]? = some m → us[i]? = some u → m.at_ = u.at_ ∧ m.inn = u.inn) :
  Calls Tryz.prog 65 #[.slice A N c, .slice B N e] w (RetTb N w) := by
 have HM := Lib.hid hm
 have HU := Lib.hid hu
 have HMR := Lib.hid hmr
 have HUR := Lib.hid hur
 have HEQ := Lib.hid heq
 clear hm hu hmr hur heq
 obtain ⟨w1, hw1⟩ : ∃ y, y = w.alloc (.cells Tryz.zeroCells211 211) := ⟨_, rfl⟩
 obtain ⟨tb, htb⟩ : ∃ z, z = w.heap.size := ⟨_, rfl⟩
 have HB1 : Hid (Blk w1 tb 211 ((List.replicate 2989 (0 : Int)).map iv)) := by
  unfold Hid
  rw [hw1, htb, zero211]
  exact Blk.new w 211 _
 have HG1 : Hid (Grew w w1) := by unfold Hid; rw [hw1]; exact (Grew.refl w).alloc _
 have HTB : Hid (w.heap.size ≤ tb) := by unfold Hid; omega
 go_enter Tryz.func65, Tryz.ntmps65
 go_upto_region 2 with (fail)
 rw [← hw1, ← htb]
 clear hw1 htb
 have HT0 : Hid (TOk N (fun i _ => N < i + 0) (List.replicate 2989 (0 : Int))) := ⟨List.length_replicate, fun i k hi hk h => by omega⟩
 have m0 : IntKind.i64.wrap ((N : Int) + 1) = (N : Int) + 1 := IntWalk.i64_in _ (by omega)
 go_wp2_with fail
 go_loopw [16] (fun i y => ∃ (β : Nat) (ts : List Int), β ≤ N + 1 ∧ i = .int .i64 β ∧ Hid (TOk N (fun i _ => N < i + β) ts) ∧ Hid (Blk y tb 211 (ts.map iv)) ∧ Hid (Grew w y)) (fun i _ => N + 1 - (intOf i).toNat)
 case atStart => exact ⟨0, _, Nat.zero_le _, rfl, HT0.out, HB1.out, HG1.out⟩
 case round =>
  clear HT0 HB1 HG1
  obtain ⟨β, ts, hβ, rfl, HT, HB, HR⟩ := hrel
  by_cases hlt : β < N + 1
  ·have t1 : decide ((β : Int) < (N : Int) + 1) = true := decide_eq_true (by omega)
   obtain ⟨i, hi⟩ : ∃ i, i + β = N := ⟨N - β, by omega⟩
   have m1 : IntKind.i64.wrap ((N : Int) - (β : Int)) = (i : Int) := by rw [show (N : Int) - (β : Int) = (i : Int) by omega]; exact IntWalk.i64_in _ (by omega)
   have HT0 : Hid (TOk N (fun i' k' => N < i' + β ∨ (i' = i ∧ N < k' + 0)) ts) := HT.out.weak (fun i' k' _ _ h => by omega)
   have HI := Lib.hid hi
   clear hi HT
   go_upto_region 7 with (fail)
   clear t1 m1
   go_loopw [26] (fun r y => ∃ (ρ : Nat) (ts : List Int), ρ ≤ N + 1 ∧ r = .int .i64 ρ ∧ Hid (TOk N (fun i' k' => N < i' + β ∨ (i' = i ∧ N < k' + ρ)) ts) ∧ Hid (Blk y tb 211 (ts.map iv)) ∧ Hid (Grew w y)) (fun r _ => N + 1 - (intOf r).toNat)
   case atStart => exact ⟨0, ts, Nat.zero_le _, rfl, HT0.out, HB.out, HR.out⟩
   case round =>
    clear HT0 HB HR
    obtain ⟨ρ, ts, hρ, rfl, HT, HB, HR⟩ := hrel
    have hi := HI.out
    by_cases hlr : ρ < N + 1
    ·have t1 : decide ((ρ : Int) < (N : Int) + 1) = true := decide_eq_true (by omega)
     obtain ⟨k, hk⟩ : ∃ k, k + ρ = N := ⟨N - ρ, by omega⟩
     have m1 : IntKind.i64.wrap ((N : Int) - (ρ : Int)) = (k : Int) := by rw [show (N : Int) - (ρ : Int) = (k : Int) by omega]; exact IntWalk.i64_in _ (by omega)
     obtain ⟨v0, h0⟩ : ∃ v, ts[i * 61 + k]? = some v := ⟨_, List.getElem?_eq_getElem (by rw [HT.out.1]; omega)⟩
     have c0 : wr.cell? ⟨tb, i * 61 + k, none⟩ = some (.int .i64 v0) := blk_tab HB.out h0
     have f0 := HB.out.frozen (i * 61 + k)
     have a1 : (0 : Int) ≤ (i : Int) := by omega
     have a2 : (i : Int) < 49 := by omega
     have a3 : (0 : Int) ≤ (k : Int) := by omega
     have a4 : (k : Int) < 61 := by omega
     by_cases hb0 : β = 0
     ·skip
      subst hb0
      obtain rfl : N = i := by omega
      have q1 : ((0 : Int) == 0) = true := rfl
      have m3 : IntKind.i64.wrap ((ρ : Int) * 120) = (ρ : Int) * 120 := IntWalk.i64_in _ (by omega)
      have HT2 := Lib.hid (HT.out.step hN (i := N) (k := k) (v := (ρ : Int) * 120) (P' := fun i' k' => N < i' + 0 ∨ (i' = N ∧ N < k' + (ρ + 1))) (by omega) (by omega) (by omega) (by omega) (by omega) (fun i' k' _ _ h => by omega))
      have HB2 : Hid (Blk (wr.setCell ⟨tb, N * 61 + k, none⟩ (.int .i64 ((ρ : Int) * 120))) tb 211 ((ts.set (N * 61 + k) ((ρ : Int) * 120)).map iv)) := by unfold Hid; rw [List.map_set]; exact HB.out.set _ _
      have HR2 := Lib.hid (HR.out.grown (grown_set wr tb (N * 61 + k) (.int .i64 ((ρ : Int) * 120))) (fun q hq => by injection hq with hq; have := HTB.out; omega))
      obtain ⟨wn, hwn⟩ : ∃ y, y = wr.setCell ⟨tb, N * 61 + k, none⟩ (.int .i64 ((ρ : Int) * 120)) := ⟨_, rfl⟩
      rw [← hwn] at HB2 HR2
      go_upto_region 16 with (fail)
      rw [← hwn]
      clear hwn c0 f0 HT HB HR
      go_wp2_with fail
      go_roundw
      case rel => exact ⟨ρ + 1, _, by omega, by go_num, HT2.out, HB2.out, HR2.out⟩
      case measure => simp [intOf]; omega
     ·by_cases hr0 : ρ = 0
      ·skip
       subst hr0
       obtain rfl : N = k := by omega
       have q1 : ((β : Int) == 0) = false := by simp; omega
       have q1' : (β == 0) = false := by simp; omega
       have m3 : IntKind.i64.wrap ((β : Int) * 120) = (β : Int) * 120 := IntWalk.i64_in _ (by omega)
       have HT2 := Lib.hid (HT.out.step hN (i := i) (k := N) (v := (β : Int) * 120) (P' := fun i' k' => N < i' + β ∨ (i' = i ∧ N < k' + (0 + 1))) (by omega) (by omega) (by omega) (by omega) (by omega) (fun i' k' _ _ h => by omega))
       have HB2 : Hid (Blk (wr.setCell ⟨tb, i * 61 + N, none⟩ (.int .i64 ((β : Int) * 120))) tb 211 ((ts.set (i * 61 + N) ((β : Int) * 120)).map iv)) := by unfold Hid; rw [List.map_set]; exact HB.out.set _ _
       have HR2 := Lib.hid (HR.out.grown (grown_set wr tb (i * 61 + N) (.int .i64 ((β : Int) * 120))) (fun q hq => by injection hq with hq; have := HTB.out; omega))
       obtain ⟨wn, hwn⟩ : ∃ y, y = wr.setCell ⟨tb, i * 61 + N, none⟩ (.int .i64 ((β : Int) * 120)) := ⟨_, rfl⟩
       rw [← hwn] at HB2 HR2
       go_upto_region 16 with (fail)
       rw [← hwn]
       clear hwn c0 f0 HT HB HR
       go_wp2_with fail
       go_roundw
       case rel => exact ⟨0 + 1, _, by omega, by go_num, HT2.out, HB2.out, HR2.out⟩
       case measure => simp [intOf]
      ·skip
       have q1 : ((β : Int) == 0) = false := by simp; omega
       have q1' : (β == 0) = false := by simp; omega
       have q2 : ((ρ : Int) == 0) = false := by simp; omega
       have q2' : (ρ == 0) = false := by simp; omega
       obtain ⟨v1, h1, h1a, h1b, _⟩ := HT.out.2 (i + 1) k (by omega) (by omega) (by omega)
       obtain ⟨v2, h2, h2a, h2b, _⟩ := HT.out.2 i (k + 1) (by omega) (by omega) (by omega)
       obtain ⟨v3, h3, h3a, h3b, h3c⟩ := HT.out.2 (i + 1) (k + 1) (by omega) (by omega) (by omega)
       have d1 := blk_tab HB.out h1
       have d2 := blk_tab HB.out h2
       have d3 := blk_tab HB.out h3
       obtain ⟨bm, om, mk, hM, hmk, c1, c2, c3⟩ := Recs.mk' (HM.out.grew HR.out) (show i < N by omega)
       obtain ⟨bp, op, pu, hP, hpu, c4, c5⟩ := Recs.pu (HU.out.grew HR.out) (show k < N by omega)
       have hmr := HMR.out mk (List.mem_of_getElem? hmk)
       have hpr := HUR.out pu (List.mem_of_getElem? hpu)
       have hcb := cst_bd hmr hpr
       have hcz : i = k → cstF mk pu = 0 := fun e => by
        subst e
        have := HEQ.out i mk pu hmk hpu
        exact cst_zero this.1 this.2
       obtain ⟨md, mi, ma⟩ := mk
       obtain ⟨pa, pi⟩ := pu
       simp only at c1 c2 c3 c4 c5
       have HC67 : Hid (∀ W, Calls Tryz.prog 67 #[.agg #[.int .i64 md, .bool mi, .int .i64 ma], .agg #[.int .i64 pa, .bool pi]] W fun e w' => e = .returned (.int .i64 (cstF ⟨md, mi, ma⟩ ⟨pa, pi⟩)) ∧ Grew W w') := fun W => cost67 hmr hpr
       obtain ⟨cz, hcst⟩ : ∃ z, cstF ⟨md, mi, ma⟩ ⟨pa, pi⟩ = z := ⟨_, rfl⟩
       rw [hcst] at hcb hcz HC67
       have m1 : IntKind.i64.wrap ((i : Int) + 1) = (i : Int) + 1 := IntWalk.i64_in _ (by omega)
       have m2 : IntKind.i64.wrap ((k : Int) + 1) = (k : Int) + 1 := IntWalk.i64_in _ (by omega)
       have m3 : ((i : Int) + 1).toNat = i + 1 := by omega
       have m4 : ((k : Int) + 1).toNat = k + 1 := by omega
       have b1 : (0 : Int) ≤ (i : Int) + 1 := by omega
       have b2 : (i : Int) + 1 < 49 := by omega
       have b3 : (0 : Int) ≤ (k : Int) + 1 := by omega
       have b4 : (k : Int) + 1 < 61 := by omega
       obtain ⟨z1, hz1⟩ : ∃ z, min v1 v2 = z := ⟨_, rfl⟩
       have hz1b : 0 ≤ z1 ∧ z1 ≤ v1 ∧ z1 ≤ v2 := by omega
       have m5 : IntKind.i64.wrap (120 + z1) = 120 + z1 := IntWalk.i64_in _ (by omega)
       have m6 : IntKind.i64.wrap (cz + v3) = cz + v3 := IntWalk.i64_in _ (by omega)
       obtain ⟨z2, hz2⟩ : ∃ z, min (120 + z1) (cz + v3) = z := ⟨_, rfl⟩
       have HT2 := Lib.hid (HT.out.step hN (i := i) (k := k) (v := z2) (P' := fun i' k' => N < i' + β ∨ (i' = i ∧ N < k' + (ρ + 1))) (by omega) (by omega) (by omega) (by omega) (fun e => by have h5 := hcz e; have h6 := h3c (by omega); omega) (fun i' k' _ _ h => by omega))
       have hC : ∀ w', Grew wr.drew w' → (w'.cell? ⟨tb, (i + 1) * 61 + k, none⟩ = some (.int .i64 v1) ∧ w'.cell? ⟨tb, i * 61 + (k + 1), none⟩ = some (.int .i64 v2)) := fun w' g' => by
        have gg := (Grew.refl wr).drew.trans g'
        exact ⟨gg.cell d1, gg.cell d2⟩
       have HC := Lib.hid hC
       have hC2 : ∀ w', Grew wr w' → (w'.cell? ⟨bm, om + i * 3, none⟩ = some (.int .i64 md) ∧ w'.cell? ⟨bm, om + i * 3 + 1, none⟩ = some (.bool mi) ∧ w'.cell? ⟨bm, om + i * 3 + 2, none⟩ = some (.int .i64 ma)) ∧ (w'.cell? ⟨bp, op + k * 2, none⟩ = some (.int .i64 pa) ∧ w'.cell? ⟨bp, op + k * 2 + 1, none⟩ = some (.bool pi)) ∧ w'.cell? ⟨tb, (i + 1) * 61 + (k + 1), none⟩ = some (.int .i64 v3) := fun w' gg => ⟨⟨gg.cell c1, gg.cell c2, gg.cell c3⟩, ⟨gg.cell c4, gg.cell c5⟩, gg.cell d3⟩
       have HC2 := Lib.hid hC2
       subst hM hP
       have e7 : (i : Int) < (N : Int) := by omega
       have e8 : (k : Int) < (N : Int) := by omega
       clear hC hC2 h1 h2 h3 d1 d2 d3 hmk hpu c1 c2 c3 c4 c5 hcst hmr hpr hcz h3c c0 f0 HT
       go_upto_region 10 with (fail)
       refine wp_region_seq (by kernel_rfl) Grew.refl (fun _ _ _ => Grew.trans) (fun _ _ _ _ _ h => h) (by kernel_rfl) ?_
       repeat (first
        | (refine TakeAll.pure (v := ?_) (by rfl) ?_ ?_; rotate_left; (intro w' g'; obtain ⟨q_0, q_1⟩ := HC.out w' g'; go_simp; first | done | with_reducible rfl); (simp only [Act.put, uzT, uz0, uz1]))
        | (refine TakeAll.skip (by rfl) ?_; (simp only [Act.put, uzT, uz0, uz1])))
       refine TakeAll.nil ?_
       intro w5 g5
       have G5 := Lib.hid ((Grew.refl wr).drew.trans g5)
       clear g5 HC
       go_upto_region 11 with (fail)
       have hC3 : ∀ w', Grew w5.drew w' → _ := fun w' g' => HC2.out w' (G5.out.trans ((Grew.refl w5).drew.trans g'))
       have HC3 := Lib.hid hC3
       clear hC3
       refine wp_region_G (by kernel_rfl) Grew.refl 27 ?_
       refine wpAnyG_takes Grew.refl (fun _ _ _ => Grew.trans) (fun _ _ _ _ _ h => h) (List.range 27) (fuel' := 1) (by kernel_rfl) (by kernel_rfl) (by simp only [show List.range 27 = [0, 1, 2, 3, 4, 5, 6, 7, 8, 9, 10, 11, 12, 13, 14, 15, 16, 17, 18, 19, 20, 21, 22, 23, 24, 25, 26] from rfl, pickOps, ugT, ug0, ug1]; rfl) ?_
       repeat (first
        | (refine TakeAll.pure (v := ?_) (by rfl) ?_ ?_; rotate_left; (intro w' g'; obtain ⟨⟨q_0, q_1, q_2⟩, ⟨q_3, q_4⟩, q_5⟩ := HC3.out w' g'; go_simp; first | done | with_reducible rfl); (simp only [Act.put, uzT, uz0, uz1]))
        | (refine TakeAll.skip (by rfl) ?_; (simp only [Act.put, uzT, uz0, uz1]))
        | (refine TakeAll.call (by rfl) 67 _ (fun _ => by go_simp; first | done | rfl) (fun w' g' => HC67.out w') ?_; (simp only [Act.put, uzT, uz0, uz1])))
       refine TakeAll.nil ?_
       refine wpAnyG_end (by kernel_rfl) (fuel' := 0) (by kernel_rfl) (by simp only [pickOps, ugT, ug0, ug1]; rfl) rfl ?_
       intro w6 g6 K hK
       have gg := G5.out.trans ((Grew.refl w5).drew.trans g6)
       have HB6 := Lib.hid (HB.out.grew gg)
       have HR6 := Lib.hid (HR.out.trans gg)
       have c0 : w6.cell? ⟨tb, i * 61 + k, none⟩ = some (.int .i64 v0) := blk_tab HB6.out h0
       have f0 := HB6.out.frozen (i * 61 + k)
       go_simp
       refine hK _ _ ?_
       clear hK K
       refine wpAny_done (by kernel_rfl) ?_ _
       have HB2 : Hid (Blk (w6.setCell ⟨tb, i * 61 + k, none⟩ (.int .i64 z2)) tb 211 ((ts.set (i * 61 + k) z2).map iv)) := by unfold Hid; rw [List.map_set]; exact HB6.out.set _ _
       have HR2 := Lib.hid (HR6.out.grown (grown_set w6 tb (i * 61 + k) (.int .i64 z2)) (fun q hq => by injection hq with hq; have := HTB.out; omega))
       obtain ⟨wn, hwn⟩ : ∃ y, y = w6.setCell ⟨tb, i * 61 + k, none⟩ (.int .i64 z2) := ⟨_, rfl⟩
       rw [← hwn] at HB2 HR2 ⊢
       clear hwn c0 f0 HB6 HR6 HB HR G5 g6 gg HC3 HC2 HC67 m1 m2 m3 m4 m5 m6 hz1 hz2
       go_wp2_with fail
       go_roundw
       case rel => exact ⟨ρ + 1, _, by omega, by go_num, HT2.out, HB2.out, HR2.out⟩
       case measure => simp [intOf]; omega
    ·obtain rfl : ρ = N + 1 := by omega
     have t1 : decide (((N + 1 : Nat) : Int) < (N : Int) + 1) = false := decide_eq_false (by omega)
     have t2 : decide ((N : Int) + 1 < (N : Int) + 1) = false := decide_eq_false (by omega)
     have HT2 := Lib.hid (HT.out.weak (P' := fun i' _ => N < i' + (β + 1)) (fun i' k' _ _ h => by omega))
     go_wp2_with fail
     go_roundw
     case rel => exact ⟨β + 1, ts, by omega, by go_num, HT2.out, HB.out, HR.out⟩
     case measure => simp [intOf]; omega
  ·obtain rfl : β = N + 1 := by omega
   have t1 : decide (((N + 1 : Nat) : Int) < (N : Int) + 1) = false := decide_eq_false (by omega)
   have t2 : decide ((N : Int) + 1 < (N : Int) + 1) = false := decide_eq_false (by omega)
   have HT2 := Lib.hid (HT.out.weak (P' := fun _ _ => True) (fun i' k' _ _ _ => by omega))
   go_wp2
   go_ret
   exact ⟨tb, ts, rfl, HTB.out, HB.out, HT2.out, HR.out⟩
end Go.Proofs.YtnnbibmmofnkdaaGreat
