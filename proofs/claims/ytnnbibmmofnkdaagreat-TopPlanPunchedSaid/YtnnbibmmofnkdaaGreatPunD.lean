/-
 Punches: the next match.
-/
import Derived.Test.YtnnbibmmofnkdaaGreatPunC
namespace Go.Proofs.YtnnbibmmofnkdaaGreat
open Go.RowKit Go.Proofs WageMem WageReg WageRec WageSpan WageTop
theorem cut_law {P : Program} {c : Code} {Q : Exit → Act → World → Prop} {a : Act} {w : World} (F : Act → Act) (R : World → Prop) (hJ : ∀ w', R w' → Q .normal (F a) w') (h : c.wp P (fun ex a' w' => match ex with | .normal => a' = F a ∧ R w' | _ => False) a w) : c.wp P Q a w :=
 Code.wp_mono (fun e a' w' h => by
  cases e with
  | normal => obtain ⟨rfl, h⟩ := h; exact hJ w' h
  | _ => exact h.elim) h
theorem size145 : (Tryz.prog.info? 145).map (·.size) = some 3 := by kernel_rfl
theorem results_mt {fn : Func} {p : Tmp} (h : fn.results = #[.cell p 145]) (tmps : Array Value) (w : World) (b : Nat) (cs : Array Value) (hp : tmps.getD p undef = .pointer (some ⟨b, 0, none⟩)) (hb : w.heap[b]? = some (.cells cs 145 (0, 0))) (hs : cs.size = 3) :
  (results fn tmps).run Tryz.prog w = .ok (.agg cs) w :=
 results_cell_row h tmps w b 145 cs (0, 0) _ hp hb Tryz.underlying145 rfl (by rw [hs]; exact size145)
/-- What Pair has laid before its walk. -/
structure PaAt (w : World) (pt mb pb tb : Nat) (MA : Option Addr) (mc : Nat) (B : Option Addr) (e N : Nat) (ms : List Mk) (us : List Pu) (ts : List Int) : Prop where
 pt : w.cell? ⟨pt, 0, none⟩ = some (.pointer (some ⟨tb, 0, none⟩))
 mb : w.cell? ⟨mb, 0, none⟩ = some (.slice MA N mc)
 pb : w.cell? ⟨pb, 0, none⟩ = some (.slice B N e)
 tab : Blk w tb 211 (ts.map iv)
 ok : TOk N (fun _ _ => True) ts
 ms : Recs encM 3 w MA N mc ms
 us : Recs encU 2 w B N e us
theorem PaAt.grew {w w' : World} {pt mb pb tb : Nat} {MA : Option Addr} {mc : Nat} {B : Option Addr} {e N : Nat} {ms : List Mk} {us : List Pu} {ts : List Int} (h : PaAt w pt mb pb tb MA mc B e N ms us ts) (g : Grew w w') : PaAt w' pt mb pb tb MA mc B e N ms us ts :=
 ⟨g.cell h.pt, g.cell h.mb, g.cell h.pb, h.tab.grew g, h.ok, h.ms.grew g, h.us.grew g⟩
/-- What the step returns. -/
def RetNx (ib kb r : Nat) (d : Int) (i : Bool) (w5 y : World) (e : Ending) (w' : World) : Prop := e = .returned (.agg #[.int .i64 d, .bool i, .int .i64 (r : Int)]) ∧ Blk w' ib 3 [.int .i64 ((r : Int) + 1)] ∧ Blk w' kb 3 [.int .i64 ((r : Int) + 1)] ∧ KeepB (fun j => j ≠ ib ∧ j ≠ kb) y w' ∧ Grew w5 w'
theorem keep_setRow {y A : World} {G : Nat → Prop} (h : KeepB G y A) {rb : Nat} (hb : y.heap.size ≤ rb) (cs : Array Value) : KeepB G y (A.setRow rb cs) :=
 ⟨by rw [setRow_size]; exact h.1, fun k o hk ho => by
  have hl := (Array.getElem?_eq_some_iff.1 ho).1
  exact (setRow_other A rb k cs (by omega)).trans (h.2 k o hk ho)⟩
theorem grown_keep {A B : World} {b : Nat} {G : Nat → Prop} (h : A.grownBy B (some b)) (hb : ¬ G b) : KeepB G A B := KeepB.grown h hb
set_option maxRecDepth 100000 in
set_option maxHeartbeats 8000000 in
theorem next66 {w5 y : World} {ib kb pt mb pb tb : Nat} {MA : Option Addr} {mc : Nat} {B : Option Addr} {e N : Nat} {ms : List Mk} {us : List Pu} {ts : List Int} {r : Nat} {mk : Mk} {pu : Pu}
  (hF : PaAt w5 pt mb pb tb MA mc B e N ms us ts) (hg : Grew w5 y) (hib : w5.heap.size ≤ ib) (hkb : w5.heap.size ≤ kb) (hne : ib ≠ kb) (hI : Blk y ib 3 [.int .i64 (r : Int)]) (hK : Blk y kb 3 [.int .i64 (r : Int)]) (hN : N ≤ 48) (hr : r < N)
  (hm : ms[r]? = some mk) (hu : us[r]? = some pu) (hmr : 0 ≤ mk.at_ ∧ mk.at_ ≤ 52596000) (hpr : 0 ≤ pu.at_ ∧ pu.at_ ≤ 52596000) (heq : cstF mk pu = 0) :
  Calls Tryz.prog 66 #[.pointer (some ⟨pt, 0, none⟩), .pointer (some ⟨ib, 0, none⟩), .pointer (some ⟨kb, 0, none⟩), .pointer (some ⟨mb, 0, none⟩), .pointer (some ⟨pb, 0, none⟩)] y (RetNx ib kb r mk.d mk.inn w5 y) := by
 obtain ⟨v1, h1, _, _, h1z⟩ := hF.ok.2 r r (by omega) (by omega) trivial
 obtain ⟨v2, h2, _, _, h2z⟩ := hF.ok.2 (r + 1) (r + 1) (by omega) (by omega) trivial
 have h1z := h1z rfl
 have h2z := h2z rfl
 subst h1z h2z
 obtain ⟨bm, om, mk', hMA, hmk, c1, c2, c3⟩ := Recs.mk' hF.ms hr
 obtain ⟨bp, op, pu', hPB, hpu, c4, c5⟩ := Recs.pu hF.us hr
 rw [hm] at hmk
 injection hmk with hmk
 subst hmk
 rw [hu] at hpu
 injection hpu with hpu
 subst hpu
 obtain ⟨md, mi, ma⟩ := mk
 obtain ⟨pa, pi⟩ := pu
 simp only at c1 c2 c3 c4 c5 hmr hpr ⊢
 have HC67 : Hid (∀ W, Calls Tryz.prog 67 #[.agg #[.int .i64 md, .bool mi, .int .i64 ma], .agg #[.int .i64 pa, .bool pi]] W fun e w' => e = .returned (.int .i64 0) ∧ Grew W w') := fun W => by have := cost67 (w := W) (m := ⟨md, mi, ma⟩) (u := ⟨pa, pi⟩) hmr hpr; rw [heq] at this; exact this
 obtain ⟨ya, hya⟩ : ∃ z, z = y.alloc (.cells #[.int .i64 0, .bool false, .int .i64 0] 145) := ⟨_, rfl⟩
 obtain ⟨rb, hrb⟩ : ∃ z, z = y.heap.size := ⟨_, rfl⟩
 have ga : Grew y ya := by rw [hya]; exact (Grew.refl y).alloc _
 have HRB : Hid (Blk ya rb 145 [.int .i64 0, .bool false, .int .i64 0]) := by unfold Hid; rw [hya, hrb]; exact Blk.new y 145 [.int .i64 0, .bool false, .int .i64 0]
 have HIa := Lib.hid (hI.grew ga)
 have HKa := Lib.hid (hK.grew ga)
 have HGa := Lib.hid (hg.trans ga)
 have HKP : Hid (KeepB (fun j => j ≠ ib ∧ j ≠ kb) y ya) := KeepB.grew ga
 have HNE : Hid (ib ≠ kb) := hne
 have HW : Hid (w5.heap.size ≤ ib ∧ w5.heap.size ≤ kb ∧ y.heap.size ≤ rb ∧ ib < y.heap.size ∧ kb < y.heap.size ∧ w5.heap.size ≤ y.heap.size) := ⟨hib, hkb, by omega, hI.lt, hK.lt, hg.le⟩
 have hA : ∀ w', Grew w5 w' → (w'.cell? ⟨pt, 0, none⟩ = some (.pointer (some ⟨tb, 0, none⟩)) ∧ w'.cell? ⟨mb, 0, none⟩ = some (.slice (some ⟨bm, om, none⟩) N mc) ∧ w'.cell? ⟨pb, 0, none⟩ = some (.slice (some ⟨bp, op, none⟩) N e)) ∧ (w'.cell? ⟨tb, r * 61 + r, none⟩ = some (.int .i64 0) ∧ w'.cell? ⟨tb, (r + 1) * 61 + (r + 1), none⟩ = some (.int .i64 0)) ∧ (w'.cell? ⟨bm, om + r * 3, none⟩ = some (.int .i64 md) ∧ w'.cell? ⟨bm, om + r * 3 + 1, none⟩ = some (.bool mi) ∧ w'.cell? ⟨bm, om + r * 3 + 2, none⟩ = some (.int .i64 ma)) ∧ w'.cell? ⟨bp, op + r * 2, none⟩ = some (.int .i64 pa) ∧ w'.cell? ⟨bp, op + r * 2 + 1, none⟩ = some (.bool pi) := fun w' gg => by
  have h3 := hF.mb
  have h4 := hF.pb
  rw [hMA] at h3
  rw [hPB] at h4
  exact ⟨⟨gg.cell hF.pt, gg.cell h3, gg.cell h4⟩, ⟨gg.cell (blk_tab hF.tab h1), gg.cell (blk_tab hF.tab h2)⟩, ⟨gg.cell c1, gg.cell c2, gg.cell c3⟩, gg.cell c4, gg.cell c5⟩
 have HA := Lib.hid hA
 have m1 : IntKind.i64.wrap ((r : Int) + 1) = (r : Int) + 1 := IntWalk.i64_in _ (by omega)
 have m2 : ((r : Int) + 1).toNat = r + 1 := by omega
 have m3 : IntKind.i64.wrap (0 + 0) = 0 := by decide
 have a1 : (0 : Int) ≤ (r : Int) := by omega
 have a2 : (r : Int) < 49 := by omega
 have a3 : (r : Int) < 61 := by omega
 have a4 : (r : Int) < (N : Int) := by omega
 have b1 : (0 : Int) ≤ (r : Int) + 1 := by omega
 have b2 : (r : Int) + 1 < 49 := by omega
 have b4 : (r : Int) + 1 < 61 := by omega
 clear hF hg hib hkb hne hI hK hm hu hmr hpr heq h1 h2 hMA hPB c1 c2 c3 c4 c5 ga hA
 go_enter Tryz.func66, Tryz.ntmps66
 go_upto_region 1 with (fail)
 rw [← hya, ← hrb]
 clear hya hrb
 have hC : ∀ w', Grew ya.drew w' → _ := fun w' g' => HA.out w' (HGa.out.trans ((Grew.refl ya).drew.trans g'))
 have hI1 : ∀ w', Grew ya.drew w' → w'.cell? ⟨ib, 0, none⟩ = some (.int .i64 (r : Int)) ∧ w'.cell? ⟨kb, 0, none⟩ = some (.int .i64 (r : Int)) := fun w' g' => by
  have gg := (Grew.refl ya).drew.trans g'
  exact ⟨(HIa.out.grew gg).cell rfl, (HKa.out.grew gg).cell rfl⟩
 have HC := Lib.hid hC
 have HI1 := Lib.hid hI1
 clear hC hI1
 refine wp_region_seq (by kernel_rfl) Grew.refl (fun _ _ _ => Grew.trans) (fun _ _ _ _ _ h => h) (by kernel_rfl) ?_
 repeat (first
  | (refine TakeAll.pure (v := ?_) (by rfl) ?_ ?_; rotate_left; (intro w' g'; obtain ⟨⟨q_0, q_1, q_2⟩, ⟨q_3, q_4⟩, ⟨q_5, q_6, q_7⟩, q_8, q_9⟩ := HC.out w' g'; obtain ⟨z_0, z_1⟩ := HI1.out w' g'; go_simp; first | done | with_reducible rfl); (simp only [Act.put, uzT, uz0, uz1]))
  | (refine TakeAll.skip (by rfl) ?_; (simp only [Act.put, uzT, uz0, uz1])))
 refine TakeAll.nil ?_
 intro yb g1
 have gb := (Grew.refl ya).drew.trans g1
 have HIb := Lib.hid (HIa.out.grew gb)
 have HKb := Lib.hid (HKa.out.grew gb)
 have HRb := Lib.hid (HRB.out.grew gb)
 have HGb := Lib.hid (HGa.out.trans gb)
 have HKPb := Lib.hid (HKP.out.trans (KeepB.grew gb))
 clear g1 gb HC HI1 HIa HKa HRB HGa HKP
 go_upto_region 2 with (fail)
 have hC : ∀ w', Grew yb.drew w' → _ := fun w' g' => HA.out w' (HGb.out.trans ((Grew.refl yb).drew.trans g'))
 have hI1 : ∀ w', Grew yb.drew w' → w'.cell? ⟨ib, 0, none⟩ = some (.int .i64 (r : Int)) ∧ w'.cell? ⟨kb, 0, none⟩ = some (.int .i64 (r : Int)) := fun w' g' => by
  have gg := (Grew.refl yb).drew.trans g'
  exact ⟨(HIb.out.grew gg).cell rfl, (HKb.out.grew gg).cell rfl⟩
 have HC := Lib.hid hC
 have HI1 := Lib.hid hI1
 clear hC hI1
 refine wp_region_seq (by kernel_rfl) Grew.refl (fun _ _ _ => Grew.trans) (fun _ _ _ _ _ h => h) (by kernel_rfl) ?_
 repeat (first
  | (refine TakeAll.pure (v := ?_) (by rfl) ?_ ?_; rotate_left; (intro w' g'; obtain ⟨⟨q_0, q_1, q_2⟩, ⟨q_3, q_4⟩, ⟨q_5, q_6, q_7⟩, q_8, q_9⟩ := HC.out w' g'; obtain ⟨z_0, z_1⟩ := HI1.out w' g'; go_simp; first | done | with_reducible rfl); (simp only [Act.put, uzT, uz0, uz1]))
  | (refine TakeAll.skip (by rfl) ?_; (simp only [Act.put, uzT, uz0, uz1]))
  | (refine TakeAll.call (by rfl) 67 _ (fun _ => by go_simp; first | done | rfl) (fun w' g' => HC67.out w') ?_; (simp only [Act.put, uzT, uz0, uz1])))
 refine TakeAll.nil ?_
 intro yc g1
 have gb := (Grew.refl yb).drew.trans g1
 have HIc := Lib.hid (HIb.out.grew gb)
 have HKc := Lib.hid (HKb.out.grew gb)
 have HRc := Lib.hid (HRb.out.grew gb)
 have HGc := Lib.hid (HGb.out.trans gb)
 have HKPc := Lib.hid (HKPb.out.trans (KeepB.grew gb))
 clear g1 gb HC HI1 HIb HKb HRb HGb HKPb HC67
 go_upto_region 3 with (fail)
 refine cut_law (fun a => (((a.put (some 47) (.int .i64 (r : Int))).put (some 48) (.int .i64 ((r : Int) + 1))).put (some 49) (.int .i64 (r : Int))).put (some 50) (.int .i64 ((r : Int) + 1))) (fun w' => Hid (Blk w' ib 3 [.int .i64 ((r : Int) + 1)]) ∧ Hid (Blk w' kb 3 [.int .i64 ((r : Int) + 1)]) ∧ Hid (Blk w' rb 145 [.int .i64 0, .bool false, .int .i64 0]) ∧ Hid (KeepB (fun j => j ≠ ib ∧ j ≠ kb) y w') ∧ Hid (Grew w5 w')) ?_ ?_
 rotate_left
 ·have hz0 : Blk yc.drew ib 3 [.int .i64 (r : Int)] := HIc.out.grew (Grew.refl yc).drew
  have hz1 : Blk yc.drew kb 3 [.int .i64 (r : Int)] := HKc.out.grew (Grew.refl yc).drew
  have HRd := Lib.hid (HRc.out.grew (Grew.refl yc).drew)
  have HGd := Lib.hid (HGc.out.trans (Grew.refl yc).drew)
  have HKPd := Lib.hid (HKPc.out.trans (KeepB.grew (Grew.refl yc).drew))
  have c0 : yc.drew.cell? ⟨ib, 0, none⟩ = some (.int .i64 (r : Int)) := hz0.cell rfl
  have c1 : yc.drew.cell? ⟨kb, 0, none⟩ = some (.int .i64 (r : Int)) := hz1.cell rfl
  have c3' : yc.cell? ⟨kb, 0, none⟩ = some (.int .i64 (r : Int)) := HKc.out.cell rfl
  have c4' : yc.cell? ⟨ib, 0, none⟩ = some (.int .i64 (r : Int)) := HIc.out.cell rfl
  have f4 := HIc.out.frozen 0
  have f5 := HKc.out.frozen 0
  have f0 := hz0.frozen 0
  have k1 := hz1.other (a := ⟨ib, 0, none⟩) (fun e => HNE.out e.symm) (.int .i64 ((r : Int) + 1))
  have c2 : (yc.drew.setCell ⟨ib, 0, none⟩ (.int .i64 ((r : Int) + 1))).cell? ⟨kb, 0, none⟩ = some (.int .i64 (r : Int)) := k1.cell rfl
  have f2 := k1.frozen 0
  have f1 := hz1.frozen 0
  have n1 : ib ≠ kb := HNE.out
  have n2 : kb ≠ ib := fun e => HNE.out e.symm
  have HE1 : Hid (Blk ((yc.drew.setCell ⟨ib, 0, none⟩ (.int .i64 ((r : Int) + 1))).setCell ⟨kb, 0, none⟩ (.int .i64 ((r : Int) + 1))) ib 3 [.int .i64 ((r : Int) + 1)]) := (hz0.set 0 _).other (fun e => HNE.out e) _
  have HE2 : Hid (Blk ((yc.drew.setCell ⟨ib, 0, none⟩ (.int .i64 ((r : Int) + 1))).setCell ⟨kb, 0, none⟩ (.int .i64 ((r : Int) + 1))) kb 3 [.int .i64 ((r : Int) + 1)]) := k1.set 0 _
  have HE3 : Hid (Blk ((yc.drew.setCell ⟨ib, 0, none⟩ (.int .i64 ((r : Int) + 1))).setCell ⟨kb, 0, none⟩ (.int .i64 ((r : Int) + 1))) rb 145 [.int .i64 0, .bool false, .int .i64 0]) := (HRd.out.other (by have := HW.out; show rb ≠ ib; omega) _).other (by have := HW.out; show rb ≠ kb; omega) _
  have HE4 : Hid (KeepB (fun j => j ≠ ib ∧ j ≠ kb) y ((yc.drew.setCell ⟨ib, 0, none⟩ (.int .i64 ((r : Int) + 1))).setCell ⟨kb, 0, none⟩ (.int .i64 ((r : Int) + 1)))) := (HKPd.out.trans (grown_keep (grown_set yc.drew ib 0 _) (fun h => h.1 rfl))).trans (grown_keep (grown_set _ kb 0 _) (fun h => h.2 rfl))
  have HE5 : Hid (Grew w5 ((yc.drew.setCell ⟨ib, 0, none⟩ (.int .i64 ((r : Int) + 1))).setCell ⟨kb, 0, none⟩ (.int .i64 ((r : Int) + 1)))) := (HGd.out.grown (grown_set yc.drew ib 0 _) (fun q hq => by injection hq with hq; have := HW.out; omega)).grown (grown_set _ kb 0 _) (fun q hq => by injection hq with hq; have := HW.out; omega)
  clear hz0 hz1 k1 HRd HGd HKPd HIc HKc HRc HGc HKPc HA
  refine wp_region_H (by kernel_rfl) (fun _ => True) ?_
  all_goals first
   | refine wpAnyH_two (i := 0) (j := 2) (by decide +kernel) (fuel' := 5) (by kernel_rfl) (by simp only [pickOps, List.getElem?_toArray, List.getElem?_cons_zero]; rfl) rfl (by simp only [pickOps, ugT, ug0, ug1]; rfl) rfl ?_ ?_
  all_goals (intro K hK; go_simp; refine hK _ _ trivial ?_; clear hK K; try simp only [Act.put, uzT, uz0, uz1])
  all_goals first
   | refine wpAnyH_two (i := 1) (j := 2) (by decide +kernel) (fuel' := 4) (by kernel_rfl) (by simp only [pickOps, ugT, ug0, ug1]; rfl) rfl (by simp only [pickOps, ugT, ug0, ug1]; rfl) rfl ?_ ?_
   | refine wpAnyH_two (i := 0) (j := 3) (by decide +kernel) (fuel' := 4) (by kernel_rfl) (by simp only [pickOps, List.getElem?_toArray, List.getElem?_cons_zero]; rfl) rfl (by simp only [pickOps, ugT, ug0, ug1]; rfl) rfl ?_ ?_
  all_goals (intro K hK; go_simp; refine hK _ _ trivial ?_; clear hK K; try simp only [Act.put, uzT, uz0, uz1])
  all_goals first
   | refine wpAnyH_two (i := 2) (j := 4) (by decide +kernel) (fuel' := 3) (by kernel_rfl) (by simp only [pickOps, ugT, ug0, ug1]; rfl) rfl (by simp only [pickOps, ugT, ug0, ug1]; rfl) rfl ?_ ?_
   | refine wpAnyH_two (i := 1) (j := 3) (by decide +kernel) (fuel' := 3) (by kernel_rfl) (by simp only [pickOps, ugT, ug0, ug1]; rfl) rfl (by simp only [pickOps, ugT, ug0, ug1]; rfl) rfl ?_ ?_
   | refine wpAnyH_step (i := 0) (by decide +kernel) (fuel' := 3) (by kernel_rfl) (by simp only [pickOps, List.getElem?_toArray, List.getElem?_cons_zero]; rfl) (by rfl) ?_
  all_goals (intro K hK; go_simp; refine hK _ _ trivial ?_; clear hK K; try simp only [Act.put, uzT, uz0, uz1])
  all_goals first
   | refine wpAnyH_step (i := 2) (by decide +kernel) (fuel' := 2) (by kernel_rfl) (by simp only [pickOps, ugT, ug0, ug1]; rfl) (by rfl) ?_
   | refine wpAnyH_two (i := 3) (j := 4) (by decide +kernel) (fuel' := 2) (by kernel_rfl) (by simp only [pickOps, ugT, ug0, ug1]; rfl) rfl (by simp only [pickOps, ugT, ug0, ug1]; rfl) rfl ?_ ?_
   | refine wpAnyH_step (i := 1) (by decide +kernel) (fuel' := 2) (by kernel_rfl) (by simp only [pickOps, ugT, ug0, ug1]; rfl) (by rfl) ?_
  all_goals (intro K hK; go_simp; refine hK _ _ trivial ?_; clear hK K; try simp only [Act.put, uzT, uz0, uz1])
  all_goals first
   | refine wpAnyH_step (i := 3) (by decide +kernel) (fuel' := 1) (by kernel_rfl) (by simp only [pickOps, ugT, ug0, ug1]; rfl) (by rfl) ?_
   | refine wpAnyH_step (i := 4) (by decide +kernel) (fuel' := 1) (by kernel_rfl) (by simp only [pickOps, ugT, ug0, ug1]; rfl) (by rfl) ?_
  all_goals (intro K hK; go_simp; refine hK _ _ trivial ?_; clear hK K; try simp only [Act.put, uzT, uz0, uz1])
  all_goals first
   | refine wpAnyH_step (i := 5) (by decide +kernel) (fuel' := 0) (by kernel_rfl) (by simp only [pickOps, ugT, ug0, ug1]; rfl) (by rfl) ?_
  all_goals (intro K hK; go_simp; refine hK _ _ trivial ?_; clear hK K; try simp only [Act.put, uzT, uz0, uz1])
  all_goals exact wpAnyH_done (by decide +kernel) ⟨rfl, HE1, HE2, HE3, HE4, HE5⟩ _
 ·rintro yd ⟨HId, HKd, HRd, HKPd, HGd⟩
  simp only [Act.put, uzT, uz0, uz1]
  have hC : ∀ w', Grew yd.drew w' → _ := fun w' g' => HA.out w' (HGd.out.trans ((Grew.refl yd).drew.trans g'))
  have hI1 : ∀ w', Grew yd.drew w' → w'.cell? ⟨ib, 0, none⟩ = some (.int .i64 ((r : Int) + 1)) ∧ w'.cell? ⟨kb, 0, none⟩ = some (.int .i64 ((r : Int) + 1)) := fun w' g' => by
   have gg := (Grew.refl yd).drew.trans g'
   exact ⟨(HId.out.grew gg).cell rfl, (HKd.out.grew gg).cell rfl⟩
  have HC := Lib.hid hC
  have HI1 := Lib.hid hI1
  clear hC hI1 HIc HKc HRc HGc HKPc
  have m4 : (r : Int) + 1 - 1 = (r : Int) := by omega
  have m5 : IntKind.i64.wrap (r : Int) = (r : Int) := IntWalk.i64_in _ (by omega)
  go_upto_region 4 with (fail)
  refine wp_region_G (by kernel_rfl) Grew.refl 15 ?_
  refine wpAnyG_takes Grew.refl (fun _ _ _ => Grew.trans) (fun _ _ _ _ _ h => h) [0, 1, 2, 3, 4, 5, 6, 7, 8, 9, 10, 11, 12, 13, 14] (fuel' := 1) (by kernel_rfl) (by kernel_rfl) (by simp only [pickOps, ugT, ug0, ug1]; rfl) ?_
  repeat (first
   | (refine TakeAll.pure (v := ?_) (by rfl) ?_ ?_; rotate_left; (intro w' g'; obtain ⟨⟨q_0, q_1, q_2⟩, ⟨q_3, q_4⟩, ⟨q_5, q_6, q_7⟩, q_8, q_9⟩ := HC.out w' g'; obtain ⟨z_0, z_1⟩ := HI1.out w' g'; go_simp; first | done | with_reducible rfl); (simp only [Act.put, uzT, uz0, uz1]))
   | (refine TakeAll.skip (by rfl) ?_; (simp only [Act.put, uzT, uz0, uz1])))
  refine TakeAll.nil ?_
  refine wpAnyG_end (by kernel_rfl) (fuel' := 0) (by kernel_rfl) (by simp only [pickOps, ugT, ug0, ug1]; rfl) rfl ?_
  intro ye g3 K hK
  have G3 := (Grew.refl yd).drew.trans g3
  refine wp_store_row 145 (.tmp 5) (.tmp 65) rfl rb #[.int .i64 md, .bool mi, .int .i64 (r : Int)] rfl rfl 145 _ (HRd.out.grew G3) size145 rfl (by simp [Value.oneCell']) ?_
  refine hK _ _ ?_
  clear hK K
  have HB := Lib.hid (setRow_heap ye rb _ #[.int .i64 md, .bool mi, .int .i64 (r : Int)] 145 (0, 0) (HRd.out.grew G3))
  have HW' := HW.out
  have J1 : Hid (Blk (ye.setRow rb #[.int .i64 md, .bool mi, .int .i64 (r : Int)]) ib 3 [.int .i64 ((r : Int) + 1)]) := (HId.out.grew G3).kept (grown_setRow ye rb _) (fun e => by injection e; omega)
  have J2 : Hid (Blk (ye.setRow rb #[.int .i64 md, .bool mi, .int .i64 (r : Int)]) kb 3 [.int .i64 ((r : Int) + 1)]) := (HKd.out.grew G3).kept (grown_setRow ye rb _) (fun e => by injection e; omega)
  have J3 : Hid (KeepB (fun j => j ≠ ib ∧ j ≠ kb) y (ye.setRow rb #[.int .i64 md, .bool mi, .int .i64 (r : Int)])) := keep_setRow (HKPd.out.trans (KeepB.grew G3)) HW'.2.2.1 _
  have J4 : Hid (Grew w5 (ye.setRow rb #[.int .i64 md, .bool mi, .int .i64 (r : Int)])) := grew_setRow (HGd.out.trans G3) (by omega) _
  clear HW'
  refine wpAny_rest (fun _ _ _ _ _ h => h) [] (by kernel_rfl) (by kernel_rfl) (by kernel_rfl) rfl (TakeAll.nil ?_)
  go_wp2
  refine bodyPost_ret (results_mt rfl _ _ rb _ rfl HB.out rfl) rfl ?_
  exact ⟨rfl, J1.out, J2.out, J3.out, J4.out⟩
end Go.Proofs.YtnnbibmmofnkdaaGreat
