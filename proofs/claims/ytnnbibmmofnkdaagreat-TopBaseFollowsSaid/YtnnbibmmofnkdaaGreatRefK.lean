/-
 Refutations: some, one.
-/
import Derived.Test.YtnnbibmmofnkdaaGreatRefJ
import Derived.Test.YtnnbibmmofnkdaaGreatEqT
namespace Go.Proofs.YtnnbibmmofnkdaaGreat
open Go.RowKit Go.Proofs WageMem WageReg WageRec WageSpan WageTop
theorem some_eq (cl : List Li) : (match cl with | [] => true | x :: r => eqSome x.d 0 (x :: r)) = eqSome ((cl.head?.map Li.d).getD 0) 0 cl := by cases cl <;> rfl
theorem eqSome_step {d : Int} {k : Nat} {cl : List Li} {l : Li} (h : cl[k]? = some l) : eqSome d k (cl.drop k) = (eqT122 l.d d l.w (k : Int) l.is true && eqSome d (k + 1) (cl.drop (k + 1))) := by
 rw [drop_at' h]
 show (decide (l = ⟨d, (k : Int), true⟩) && _) = _
 congr 1
 obtain ⟨a, b, c⟩ := l
 rw [Bool.eq_iff_iff, decide_eq_true_eq, eqT122_iff]
 constructor
 ·intro h; injection h with h1 h2 h3; exact ⟨h1, h2, h3⟩
 ·rintro ⟨h1, h2, h3⟩; simp only at h1 h2 h3; subst h1 h2 h3; rfl
set_option maxRecDepth 100000 in
set_option maxHeartbeats 16000000 in
theorem some91 {w : World} {cb : Nat} {p : Pl} {M N : Pc} {ps : List Pc} {q : Qs} {s : Stp} (h : RpAt w cb p M N ps) (hs : StRd w q s) :
  Calls Tryz.prog 91 #[.pointer (some ⟨cb, 0, none⟩), .agg #[pcV q.cl, .int .i64 q.ru, pcV q.fr]] w fun e w' => Judge (someB (envP p) s) e ∧ Grew w w' := by
 obtain ⟨⟨CA, cn, cc⟩, ru, ⟨FA, fn, fc⟩⟩ := q
 obtain ⟨cl, rule, frm⟩ := s
 have HCL : Hid (Recs encL 3 w CA cn cc cl) := hs.cl
 have hcl : cl.length = cn := hs.cl.1
 have hfl : frm.length = fn := hs.fr.1
 have HLN := Lib.hid hcl
 have cn9 : cn ≤ 9223372036854775807 := hs.cl.le
 obtain ⟨w1, hw1⟩ : ∃ y, y = w.alloc (.cells #[.slice CA cn cc, .int .i64 ru, .slice FA fn fc] 71) := ⟨_, rfl⟩
 obtain ⟨sb, hsb⟩ : ∃ z, z = w.heap.size := ⟨_, rfl⟩
 have G1 : Hid (Grew w w1) := by unfold Hid; rw [hw1]; exact (Grew.refl w).alloc _
 have HSB : Hid (Blk w1 sb 71 [.slice CA cn cc, .int .i64 ru, .slice FA fn fc]) := by unfold Hid; rw [hw1, hsb]; exact Blk.new w 71 [.slice CA cn cc, .int .i64 ru, .slice FA fn fc]
 obtain ⟨t, ht⟩ : ∃ t, someB (envP p) ⟨cl, rule, frm⟩ = t := ⟨_, rfl⟩
 rw [ht]
 have HT : Hid ((decide (fn = 0) && (decide (0 < p.dn) && (decide (cn = p.wn) && eqSome ((cl.head?.map Li.d).getD 0) 0 cl))) = t) := by
  unfold Hid
  rw [← ht, ← some_eq, ← hcl, ← hfl]
  unfold someB
  congr 1
  cases frm <;> simp
 have dn9 := h.fact.pl.ds.le
 have wn9 := h.fact.pl.ws.le
 have hA : ∀ w', Grew w1.drew w' → (w'.cell? ⟨sb, 0, none⟩ = some (.slice CA cn cc) ∧ w'.cell? ⟨sb, 2, none⟩ = some (.slice FA fn fc)) ∧ w'.cell? ⟨cb, 3, none⟩ = some (.slice p.D p.dn p.dc) ∧ w'.cell? ⟨cb, 4, none⟩ = some (.slice p.W p.wn p.wc) := fun w' g' => by
  have gg := (Grew.refl w1).drew.trans g'
  have hb := HSB.out.grew gg
  have hr := h.grew (G1.out.trans gg)
  exact ⟨⟨hb.cell rfl, hb.cell rfl⟩, hr.cells 3 _ rfl, hr.cells 4 _ rfl⟩
 have HA := Lib.hid hA
 clear h hs ht hcl hfl hA
 show Calls Tryz.prog 91 #[.pointer (some ⟨cb, 0, none⟩), .agg #[.slice CA cn cc, .int .i64 ru, .slice FA fn fc]] w _
 go_enter Tryz.func91, Tryz.ntmps91
 go_upto_region 1 with (fail)
 rw [← hw1, ← hsb]
 clear hw1 hsb
 by_cases h1 : fn = 0
 ·skip
  have r1 : (fn == 0) = true := by simpa using h1
  have r2 : ((fn : Int) == 0) = true := by simp; omega
  by_cases h2 : 0 < p.dn
  ·skip
   have r3 : decide ((p.dn : Int) > 0) = true := decide_eq_true (by omega)
   have r4 : decide ((0 : Int) < (p.dn : Int)) = true := decide_eq_true (by omega)
   have r4' : decide (0 < p.dn) = true := decide_eq_true (by omega)
   by_cases h3 : cn = p.wn
   ·skip
    have r5 : (cn == p.wn) = true := by simpa using h3
    have r6 : ((cn : Int) == (p.wn : Int)) = true := by simp; omega
    have HTE : Hid (eqSome ((cl.head?.map Li.d).getD 0) 0 (cl.drop 0) = t) := by unfold Hid; rw [← HT.out, decide_eq_true h1, decide_eq_true h2, decide_eq_true h3]; rfl
    clear h1 h2 h3 HT
    refine wp_region_G (by kernel_rfl) Grew.refl 28 ?_
    refine wpAnyG_takes Grew.refl (fun _ _ _ => Grew.trans) (fun _ _ _ _ _ h => h) (List.range 27) (fuel' := 1) (by kernel_rfl) (by kernel_rfl) (by simp only [show List.range 27 = [0, 1, 2, 3, 4, 5, 6, 7, 8, 9, 10, 11, 12, 13, 14, 15, 16, 17, 18, 19, 20, 21, 22, 23, 24, 25, 26] from rfl, pickOps, ugT, ug0, ug1]; rfl) ?_
    repeat (first
     | (refine TakeAll.pure (v := ?_) (by rfl) ?_ ?_; rotate_left; (intro w' g'; obtain ⟨⟨y0, y2⟩, y3, y4⟩ := HA.out w' g'; go_simp; first | done | with_reducible rfl); (simp only [Act.put, uzT, uz0, uz1]))
     | (refine TakeAll.skip (by rfl) ?_; (simp only [Act.put, uzT, uz0, uz1])))
    refine TakeAll.nil ?_
    refine wpAnyG_stepW (i := 27) (by kernel_rfl) (fuel' := 0) (by kernel_rfl) (by simp only [pickOps, ugT, ug0, ug1]; rfl) (by rfl) ?_
    intro w3 g3 K hK
    refine wp_callJ 96 _ (by go_simp; first | done | rfl) ?_
    refine (require96 _ _).mono ?_
    rintro r w4 ⟨hj, rfl⟩
    obtain rfl : r = .returned (.tuple #[]) := hj
    refine .inl ⟨_, rfl, hK _ _ (Grew.refl _) ?_⟩
    clear hK K
    refine wpAnyG_done (by kernel_rfl) ?_ _
    intro w5 g5
    have G5 := Lib.hid ((Grew.refl w1).drew.trans (g3.trans g5))
    clear r1 r2 r3 r4 r4' r5 r6 g3 g5 HA
    simp only [Act.put, uzT, uz0, uz1]
    have s0 : w5.cell? ⟨sb, 0, none⟩ = some (.slice CA cn cc) := (HSB.out.grew G5.out).cell rfl
    go_wp2_with fail
    clear s0
    obtain ⟨d0, hd0⟩ : ∃ z, (cl.head?.map Li.d).getD 0 = z := ⟨_, rfl⟩
    rw [hd0] at HTE
    have HD0 := Lib.hid hd0
    clear hd0
    go_loopw [37] (fun i y => ∃ k : Nat, k ≤ cn ∧ i = .int .i64 k ∧ Hid (eqSome d0 k (cl.drop k) = t) ∧ Hid (Grew w1 y)) (fun i _ => cn - (intOf i).toNat)
    case atStart => exact ⟨0, Nat.zero_le _, rfl, HTE.out, G5.out⟩
    case round =>
     clear HTE G5
     obtain ⟨k, hk, rfl, HZ, HR⟩ := hrel
     by_cases hlt : k < cn
     ·have hrc := HCL.out.grew (G1.out.trans HR.out)
      obtain ⟨b, o, l, hA, hl, c0, c1, c2⟩ := Recs.lit hrc hlt
      obtain ⟨b', o', l0, hA', hl0, e0, _, _⟩ := Recs.lit hrc (show 0 < cn by omega)
      rw [hA] at hA'
      injection hA' with hA'
      injection hA' with h1 h2
      subst h1 h2
      have hdl : l0.d = d0 := by rw [← HD0.out, List.head?_eq_getElem?, hl0]; rfl
      rw [hdl, Nat.zero_mul, Nat.add_zero] at e0
      have HST : Hid ((eqT122 l.d d0 l.w (k : Int) l.is true && eqSome d0 (k + 1) (cl.drop (k + 1))) = t) := by unfold Hid; rw [← eqSome_step hl]; exact HZ.out
      obtain ⟨bq, hbq⟩ : ∃ z, eqT122 l.d d0 l.w (k : Int) l.is true = z := ⟨_, rfl⟩
      rw [hbq] at HST
      have HBQ := Lib.hid hbq
      obtain ⟨ld, lw, lis⟩ := l
      simp only at c0 c1 c2
      have HBQx : Hid (eqT122 ld d0 lw (k : Int) lis true = bq) := HBQ
      clear hrc hl hl0 hdl HZ hbq HBQ
      have e1 : (0 : Int) ≤ (k : Int) := by omega
      have e2 : (k : Int) < (cn : Int) := by omega
      have e3 : (0 : Int) < (cn : Int) := by omega
      have e4 : 0 < cn := by omega
      subst hA
      obtain ⟨wa, hwa⟩ : ∃ y, y = wr.alloc (.cells #[.int .i64 ld, .int .i64 lw, .bool lis] 122) := ⟨_, rfl⟩
      obtain ⟨ba, hba⟩ : ∃ z, z = wr.heap.size := ⟨_, rfl⟩
      have HBA : Hid (Blk wa ba 122 [.int .i64 ld, .int .i64 lw, .bool lis]) := by unfold Hid; rw [hwa, hba]; exact Blk.new wr 122 [.int .i64 ld, .int .i64 lw, .bool lis]
      have ga : Grew wr wa := by rw [hwa]; exact (Grew.refl wr).alloc _
      go_upto_region 5 with (fail)
      rw [← hwa, ← hba]
      have HRa := Lib.hid (HR.out.trans ga)
      have e0a := ga.cell e0
      clear hwa hba c0 c1 c2 e0 ga HR
      have hA : ∀ w', Grew wa.drew w' → (w'.cell? ⟨ba, 0, none⟩ = some (.int .i64 ld) ∧ w'.cell? ⟨ba, 1, none⟩ = some (.int .i64 lw) ∧ w'.cell? ⟨ba, 2, none⟩ = some (.bool lis)) ∧ w'.cell? ⟨sb, 0, none⟩ = some (.slice (some ⟨b, o, none⟩) cn cc) ∧ w'.cell? ⟨b, o, none⟩ = some (.int .i64 d0) := fun w' g' => by
       have gg := (Grew.refl wa).drew.trans g'
       have hb := HBA.out.grew gg
       exact ⟨⟨hb.cell rfl, hb.cell rfl, hb.cell rfl⟩, (HSB.out.grew (HRa.out.trans gg)).cell rfl, gg.cell e0a⟩
      have HA := Lib.hid hA
      clear hA e0a
      refine wp_region_G (by kernel_rfl) Grew.refl 10 ?_
      refine wpAnyG_takes Grew.refl (fun _ _ _ => Grew.trans) (fun _ _ _ _ _ h => h) [0, 1, 2, 3, 4, 5, 6, 7, 8] (fuel' := 1) (by kernel_rfl) (by kernel_rfl) (by simp only [pickOps, ugT, ug0, ug1]; rfl) ?_
      repeat (first
       | (refine TakeAll.pure (v := ?_) (by rfl) ?_ ?_; rotate_left; (intro w' g'; obtain ⟨⟨y0, y1, y2⟩, y3, y4⟩ := HA.out w' g'; go_simp; first | done | with_reducible rfl); (simp only [Act.put, uzT, uz0, uz1]))
       | (refine TakeAll.pure (v := .bool bq) (by rfl) (fun w' _ => exec_eql122 HBQx.out rfl rfl rfl w') ?_; (simp only [Act.put, uzT, uz0, uz1]))
       | (refine TakeAll.skip (by rfl) ?_; (simp only [Act.put, uzT, uz0, uz1])))
      refine TakeAll.nil ?_
      refine wpAnyG_stepW (i := 9) (by kernel_rfl) (fuel' := 0) (by kernel_rfl) (by simp only [pickOps, ugT, ug0, ug1]; rfl) (by rfl) ?_
      intro w3 g3 K hK
      refine wp_callJ 96 _ (by go_simp; first | done | rfl) ?_
      refine (require96 bq _).mono ?_
      rintro r w4 ⟨hj, rfl⟩
      cases bq with
      | false =>
       obtain rfl : r = .panicked failC := hj
       have HN : Hid (t = false) := HST.out.symm
       exact .inr ⟨_, rfl, rfl, by rw [HN.out]; exact judge_false rfl, G1.out.trans (HRa.out.trans ((Grew.refl wa).drew.trans g3))⟩
      | true =>
       obtain rfl : r = .returned (.tuple #[]) := hj
       have HN : Hid (eqSome d0 (k + 1) (cl.drop (k + 1)) = t) := HST.out
       refine .inl ⟨_, rfl, hK _ _ (Grew.refl _) ?_⟩
       clear hK K
       refine wpAnyG_done (by kernel_rfl) ?_ _
       intro w5 g5
       have HR5 := Lib.hid (HRa.out.trans ((Grew.refl wa).drew.trans (g3.trans g5)))
       simp only [Act.put, uzT, uz0, uz1]
       clear g3 g5 HA HST HRa
       go_wp2_with fail
       go_roundw
       case rel => exact ⟨k + 1, by omega, by go_num, HN, HR5⟩
       case measure => simp [intOf]; omega
     ·obtain rfl : cn = k := by omega
      have HN : Hid (true = t) := by have h1 := HZ.out; rw [← HLN.out, List.drop_length] at h1; exact h1
      go_wp2
      refine bodyPost_end (results_none rfl _ _ _) rfl ?_
      exact ⟨by rw [← HN.out]; exact judge_true rfl, G1.out.trans HR.out⟩
   ·skip
    have r5 : (cn == p.wn) = false := by simpa using h3
    have r6 : ((cn : Int) == (p.wn : Int)) = false := by simp; omega
    have HN : Hid (t = false) := by unfold Hid; rw [← HT.out, decide_eq_false h3, Bool.false_and, Bool.and_false, Bool.and_false]
    clear h1 h2 h3 HT
    refine wp_region_G (by kernel_rfl) Grew.refl 28 ?_
    refine wpAnyG_takes Grew.refl (fun _ _ _ => Grew.trans) (fun _ _ _ _ _ h => h) (List.range 27) (fuel' := 1) (by kernel_rfl) (by kernel_rfl) (by simp only [show List.range 27 = [0, 1, 2, 3, 4, 5, 6, 7, 8, 9, 10, 11, 12, 13, 14, 15, 16, 17, 18, 19, 20, 21, 22, 23, 24, 25, 26] from rfl, pickOps, ugT, ug0, ug1]; rfl) ?_
    repeat (first
     | (refine TakeAll.pure (v := ?_) (by rfl) ?_ ?_; rotate_left; (intro w' g'; obtain ⟨⟨y0, y2⟩, y3, y4⟩ := HA.out w' g'; go_simp; first | done | with_reducible rfl); (simp only [Act.put, uzT, uz0, uz1]))
     | (refine TakeAll.skip (by rfl) ?_; (simp only [Act.put, uzT, uz0, uz1])))
    refine TakeAll.nil ?_
    refine wpAnyG_stepW (i := 27) (by kernel_rfl) (fuel' := 0) (by kernel_rfl) (by simp only [pickOps, ugT, ug0, ug1]; rfl) (by rfl) ?_
    intro w3 g3 K hK
    refine wp_callJ 96 _ (by go_simp; first | done | rfl) ?_
    refine (require96 _ _).mono ?_
    rintro r w4 ⟨hj, rfl⟩
    obtain rfl : r = .panicked failC := hj
    exact .inr ⟨_, rfl, rfl, by rw [HN.out]; exact judge_false rfl, G1.out.trans ((Grew.refl w1).drew.trans g3)⟩
  ·skip
   have r3 : decide ((p.dn : Int) > 0) = false := decide_eq_false (by omega)
   have r4 : decide ((0 : Int) < (p.dn : Int)) = false := decide_eq_false (by omega)
   have r4' : decide (0 < p.dn) = false := decide_eq_false (by omega)
   have HN : Hid (t = false) := by unfold Hid; rw [← HT.out, decide_eq_false h2, Bool.false_and, Bool.and_false]
   clear h1 h2 HT
   refine wp_region_G (by kernel_rfl) Grew.refl 28 ?_
   refine wpAnyG_takes Grew.refl (fun _ _ _ => Grew.trans) (fun _ _ _ _ _ h => h) (List.range 27) (fuel' := 1) (by kernel_rfl) (by kernel_rfl) (by simp only [show List.range 27 = [0, 1, 2, 3, 4, 5, 6, 7, 8, 9, 10, 11, 12, 13, 14, 15, 16, 17, 18, 19, 20, 21, 22, 23, 24, 25, 26] from rfl, pickOps, ugT, ug0, ug1]; rfl) ?_
   repeat (first
    | (refine TakeAll.pure (v := ?_) (by rfl) ?_ ?_; rotate_left; (intro w' g'; obtain ⟨⟨y0, y2⟩, y3, y4⟩ := HA.out w' g'; go_simp; first | done | with_reducible rfl); (simp only [Act.put, uzT, uz0, uz1]))
    | (refine TakeAll.skip (by rfl) ?_; (simp only [Act.put, uzT, uz0, uz1])))
   refine TakeAll.nil ?_
   refine wpAnyG_stepW (i := 27) (by kernel_rfl) (fuel' := 0) (by kernel_rfl) (by simp only [pickOps, ugT, ug0, ug1]; rfl) (by rfl) ?_
   intro w3 g3 K hK
   refine wp_callJ 96 _ (by go_simp; first | done | rfl) ?_
   refine (require96 _ _).mono ?_
   rintro r w4 ⟨hj, rfl⟩
   obtain rfl : r = .panicked failC := hj
   exact .inr ⟨_, rfl, rfl, by rw [HN.out]; exact judge_false rfl, G1.out.trans ((Grew.refl w1).drew.trans g3)⟩
 ·skip
  have r1 : (fn == 0) = false := by simpa using h1
  have r2 : ((fn : Int) == 0) = false := by simp; omega
  have HN : Hid (t = false) := by unfold Hid; rw [← HT.out, decide_eq_false h1, Bool.false_and]
  clear h1 HT
  refine wp_region_G (by kernel_rfl) Grew.refl 28 ?_
  refine wpAnyG_takes Grew.refl (fun _ _ _ => Grew.trans) (fun _ _ _ _ _ h => h) (List.range 27) (fuel' := 1) (by kernel_rfl) (by kernel_rfl) (by simp only [show List.range 27 = [0, 1, 2, 3, 4, 5, 6, 7, 8, 9, 10, 11, 12, 13, 14, 15, 16, 17, 18, 19, 20, 21, 22, 23, 24, 25, 26] from rfl, pickOps, ugT, ug0, ug1]; rfl) ?_
  repeat (first
   | (refine TakeAll.pure (v := ?_) (by rfl) ?_ ?_; rotate_left; (intro w' g'; obtain ⟨⟨y0, y2⟩, y3, y4⟩ := HA.out w' g'; go_simp; first | done | with_reducible rfl); (simp only [Act.put, uzT, uz0, uz1]))
   | (refine TakeAll.skip (by rfl) ?_; (simp only [Act.put, uzT, uz0, uz1])))
  refine TakeAll.nil ?_
  refine wpAnyG_stepW (i := 27) (by kernel_rfl) (fuel' := 0) (by kernel_rfl) (by simp only [pickOps, ugT, ug0, ug1]; rfl) (by rfl) ?_
  intro w3 g3 K hK
  refine wp_callJ 96 _ (by go_simp; first | done | rfl) ?_
  refine (require96 _ _).mono ?_
  rintro r w4 ⟨hj, rfl⟩
  obtain rfl : r = .panicked failC := hj
  exact .inr ⟨_, rfl, rfl, by rw [HN.out]; exact judge_false rfl, G1.out.trans ((Grew.refl w1).drew.trans g3)⟩
def oneP (cl : List Li) : Bool := match cl with
 | [x, y] => !x.is && (!y.is && (decide (x.d = y.d) && decide (x.w < y.w)))
 | _ => false
theorem oneB_eq (s : Stp) : oneB s = (s.frm.isEmpty && oneP s.cl) := rfl
theorem cut_region {P : Program} {Q : Exit → Act → World → Prop} {X : Type} {id : Nat} {ops : Array Oper} {a : Act} {w : World} (hm : P.follows .mixedOrders = true) (S : World → World → Prop) (F : Act → X → Act) (R : X → World → Prop) (hJ : ∀ x w', R x w' → Q .normal (F a x) w')
  (h : ∀ wd, Grew w wd → (∀ x w', R x w' → Q .normal (F a x) w') → wpAnyH P .any ops Q (S wd) ops.size (Array.replicate ops.size false) a wd) : (Code.region id ops true).wp P Q a w := wp_region_H hm (S w.drew) (h w.drew (Grew.refl w).drew hJ)
set_option maxRecDepth 100000 in
set_option maxHeartbeats 16000000 in
theorem one92 {w : World} {cb : Nat} {q : Qs} {s : Stp} (hs : StRd w q s) :
  Calls Tryz.prog 92 #[.pointer (some ⟨cb, 0, none⟩), .agg #[pcV q.cl, .int .i64 q.ru, pcV q.fr]] w fun e w' => Judge (oneB s) e ∧ Grew w w' := by
 obtain ⟨⟨CA, cn, cc⟩, ru, ⟨FA, fn, fc⟩⟩ := q
 obtain ⟨cl, rule, frm⟩ := s
 have HCL : Hid (Recs encL 3 w CA cn cc cl) := hs.cl
 have hcl : cl.length = cn := hs.cl.1
 have hfl : frm.length = fn := hs.fr.1
 have HLN := Lib.hid hcl
 have cn9 : cn ≤ 9223372036854775807 := hs.cl.le
 obtain ⟨w1, hw1⟩ : ∃ y, y = w.alloc (.cells #[.slice CA cn cc, .int .i64 ru, .slice FA fn fc] 71) := ⟨_, rfl⟩
 obtain ⟨sb, hsb⟩ : ∃ z, z = w.heap.size := ⟨_, rfl⟩
 have G1 : Hid (Grew w w1) := by unfold Hid; rw [hw1]; exact (Grew.refl w).alloc _
 have HSB : Hid (Blk w1 sb 71 [.slice CA cn cc, .int .i64 ru, .slice FA fn fc]) := by unfold Hid; rw [hw1, hsb]; exact Blk.new w 71 [.slice CA cn cc, .int .i64 ru, .slice FA fn fc]
 obtain ⟨t, ht⟩ : ∃ t, oneB ⟨cl, rule, frm⟩ = t := ⟨_, rfl⟩
 rw [ht]
 have HT : Hid ((decide (fn = 0) && oneP cl) = t) := by
  unfold Hid
  rw [← ht, ← hfl]
  rw [oneB_eq]
  congr 1
  cases frm <;> simp
 clear hs ht hcl hfl
 show Calls Tryz.prog 92 #[.pointer (some ⟨cb, 0, none⟩), .agg #[.slice CA cn cc, .int .i64 ru, .slice FA fn fc]] w _
 go_enter Tryz.func92, Tryz.ntmps92
 go_upto_region 1 with (fail)
 rw [← hw1, ← hsb]
 clear hw1 hsb
 have s0 : w1.cell? ⟨sb, 0, none⟩ = some (.slice CA cn cc) := HSB.out.cell rfl
 have s2 : w1.cell? ⟨sb, 2, none⟩ = some (.slice FA fn fc) := HSB.out.cell rfl
 by_cases h1 : fn = 0
 ·have r1 : (fn == 0) = true := by simpa using h1
  have r2 : ((fn : Int) == 0) = true := by simp; omega
  by_cases h2 : cn = 2
  ·have r3 : (cn == 2) = true := by simpa using h2
   have r4 : ((cn : Int) == 2) = true := by simp; omega
   obtain ⟨b, o, x, hA, hx, c0, c1, c2⟩ := Recs.lit (HCL.out.grew G1.out) (show 0 < cn by omega)
   obtain ⟨b', o', y, hA', hy, d0, d1, d2⟩ := Recs.lit (HCL.out.grew G1.out) (show 1 < cn by omega)
   rw [hA] at hA'
   injection hA' with hA'
   injection hA' with e1 e2
   subst e1 e2
   have HTT : Hid ((!x.is && (!y.is && (decide (x.d = y.d) && decide (x.w < y.w)))) = t) := by
    unfold Hid
    rw [← HT.out, decide_eq_true h1, Bool.true_and]
    have hl := HLN.out
    rw [h2] at hl
    match cl, hl, hx, hy with
    | [x', y'], _, hx, hy =>
     simp at hx hy
     subst hx hy; rfl
   rw [Nat.zero_mul, Nat.add_zero] at c0 c1 c2
   rw [Nat.one_mul] at d0 d1 d2
   obtain ⟨xd, xw, xi⟩ := x
   obtain ⟨yd, yw, yi⟩ := y
   simp only at c0 c1 c2 d0 d1 d2 HTT
   have i1 : (0 : Int) < (cn : Int) := by omega
   have i2 : (1 : Int) < (cn : Int) := by omega
   have i3 : 0 < cn := by omega
   have i4 : 1 < cn := by omega
   subst hA
   clear hx hy HT h1 h2
   go_wp2_with fail
   refine (require96 _ _).mono ?_
   rintro r w4 ⟨hj, rfl⟩
   obtain rfl : r = .returned (.tuple #[]) := hj
   clear r1 r2 r3 r4
   go_upto_region 2 with (fail)
   refine cut_region (X := Nat × Nat) (by kernel_rfl) (fun wd w' => Grew wd w') (fun a x => (((((((((a.put (some 17) (.pointer (some ⟨sb, 0, none⟩))).put (some 18) (.slice (some ⟨b, o, none⟩) cn cc)).put (some 19) (.pointer (some ⟨b, o, none⟩))).put (some 20) (.agg #[.int .i64 xd, .int .i64 xw, .bool xi])).put (some 21) (.pointer (some ⟨sb, 0, none⟩))).put (some 22) (.slice (some ⟨b, o, none⟩) cn cc)).put (some 23) (.pointer (some ⟨b, o + 3, none⟩))).put (some 24) (.agg #[.int .i64 yd, .int .i64 yw, .bool yi])).put (some 4) (.pointer (some ⟨x.1, 0, none⟩))).put (some 5) (.pointer (some ⟨x.2, 0, none⟩))) (fun x w' => Hid (Blk w' x.1 122 [.int .i64 xd, .int .i64 xw, .bool xi]) ∧ Hid (Blk w' x.2 122 [.int .i64 yd, .int .i64 yw, .bool yi]) ∧ Hid (Grew w4 w')) ?_ ?_
   rotate_left
   ·intro wd gwd J0
    have HJ := Lib.hid J0
    have hC : ∀ w', Grew wd w' → w'.cell? ⟨sb, 0, none⟩ = some (.slice (some ⟨b, o, none⟩) cn cc) ∧ (w'.cell? ⟨b, o, none⟩ = some (.int .i64 xd) ∧ w'.cell? ⟨b, o + 1, none⟩ = some (.int .i64 xw) ∧ w'.cell? ⟨b, o + 2, none⟩ = some (.bool xi)) ∧ w'.cell? ⟨b, o + 3, none⟩ = some (.int .i64 yd) ∧ w'.cell? ⟨b, o + 3 + 1, none⟩ = some (.int .i64 yw) ∧ w'.cell? ⟨b, o + 3 + 2, none⟩ = some (.bool yi) := fun w' g' => by
     have gg := gwd.trans g'
     exact ⟨gg.cell s0, ⟨gg.cell c0, gg.cell c1, gg.cell c2⟩, gg.cell d0, gg.cell d1, gg.cell d2⟩
    have HC := Lib.hid hC
    clear hC J0 s0 s2 c0 c1 c2 d0 d1 d2
    refine wpAnyH_takes (fun _ _ _ _ _ h => h) (Grew.refl _) [0, 1, 2, 3, 4, 5, 6, 7] (fuel' := 4) (by kernel_rfl) (by kernel_rfl) (by simp only [pickOps, ugT, ug0, ug1]; rfl) ?_
    repeat (first
     | (refine TakeP.pure (v := ?_) (by rfl) ?_ ?_; rotate_left; (intro w' g'; obtain ⟨y0, ⟨y1, y2, y3⟩, y4, y5, y6⟩ := HC.out w' g'; go_simp; first | done | with_reducible rfl); (simp only [Act.put, uzT, uz0, uz1])))
    refine TakeP.nil ?_
    refine wpAnyH_two (i := 8) (j := 9) (by kernel_rfl) (fuel' := 3) (by kernel_rfl) (by simp only [pickOps, ugT, ug0, ug1]; rfl) rfl (by simp only [pickOps, ugT, ug0, ug1]; rfl) rfl ?_ ?_
    ·intro K hK
     go_simp
     have S1 := (Grew.refl wd).alloc (.cells #[.int .i64 0, .int .i64 0, .bool false] 122)
     refine hK _ _ S1 ?_
     clear hK K
     obtain ⟨v1, hv1⟩ : ∃ y, y = wd.alloc (.cells #[.int .i64 0, .int .i64 0, .bool false] 122) := ⟨_, rfl⟩
     have gz1 : Grew wd v1 := by rw [hv1]; exact (Grew.refl _).alloc _
     have Z1 : Hid (Blk v1 wd.heap.size 122 [.int .i64 0, .int .i64 0, .bool false]) := by unfold Hid; rw [hv1]; exact Blk.new wd 122 [.int .i64 0, .int .i64 0, .bool false]
     have le1 := (Grew.refl wd).le
     obtain ⟨ba, hb1⟩ : ∃ z, z = wd.heap.size := ⟨_, rfl⟩
     have hw1 : wd.heap.size ≤ ba := by rw [hb1]; exact le1
     rw [← hv1] at S1 ⊢
     rw [← hb1] at Z1 ⊢
     clear hv1 hb1 le1
     (try simp only [Act.put, uzT, uz0, uz1])
     refine wpAnyH_step (i := 9) (by kernel_rfl) (fuel' := 2) (by kernel_rfl) (by simp only [pickOps, ugT, ug0, ug1]; rfl) (by rfl) ?_
     intro K hK
     go_simp
     have S2 := S1.alloc (.cells #[.int .i64 0, .int .i64 0, .bool false] 122)
     refine hK _ _ S2 ?_
     clear hK K
     obtain ⟨v2, hv2⟩ : ∃ y, y = v1.alloc (.cells #[.int .i64 0, .int .i64 0, .bool false] 122) := ⟨_, rfl⟩
     have gz2 : Grew v1 v2 := by rw [hv2]; exact (Grew.refl _).alloc _
     have Z2 : Hid (Blk v2 v1.heap.size 122 [.int .i64 0, .int .i64 0, .bool false]) := by unfold Hid; rw [hv2]; exact Blk.new v1 122 [.int .i64 0, .int .i64 0, .bool false]
     have le2 := S1.le
     obtain ⟨bb, hb2⟩ : ∃ z, z = v1.heap.size := ⟨_, rfl⟩
     have hw2 : wd.heap.size ≤ bb := by rw [hb2]; exact le2
     rw [← hv2] at S2 ⊢
     rw [← hb2] at Z2 ⊢
     have Z1_2 := Lib.hid (Z1.out.grew gz2)
     have ne2 : ba ≠ bb := by have := Z1.out.lt; omega
     clear hv2 hb2 le2
     (try simp only [Act.put, uzT, uz0, uz1])
     refine wpAnyH_step (i := 10) (by kernel_rfl) (fuel' := 1) (by kernel_rfl) (by simp only [pickOps, ugT, ug0, ug1]; rfl) (by rfl) ?_
     intro K hK
     refine wp_store_row 122 (.tmp 4) (.tmp 20) rfl ba #[.int .i64 xd, .int .i64 xw, .bool xi] rfl rfl 122 _ Z1_2.out size122 rfl (by simp [Value.oneCell']) ?_
     have S3 := grew_setRow S2 (show wd.heap.size ≤ ba by omega) #[.int .i64 xd, .int .i64 xw, .bool xi]
     refine hK _ _ S3 ?_
     clear hK K
     have Z3 : Hid (Blk (v2.setRow ba #[.int .i64 xd, .int .i64 xw, .bool xi]) ba 122 [.int .i64 xd, .int .i64 xw, .bool xi]) := setRow_heap v2 ba _ #[.int .i64 xd, .int .i64 xw, .bool xi] 122 (0, 0) Z1_2.out
     have Z2_3 := Lib.hid (Z2.out.kept (grown_setRow v2 ba #[.int .i64 xd, .int .i64 xw, .bool xi]) (fun e => by injection e; omega))
     obtain ⟨v3, hv3⟩ : ∃ y, y = v2.setRow ba #[.int .i64 xd, .int .i64 xw, .bool xi] := ⟨_, rfl⟩
     rw [← hv3] at S3 Z3 Z2_3 ⊢
     clear hv3
     simp only [Act.put]
     refine wpAnyH_step (i := 11) (by kernel_rfl) (fuel' := 0) (by kernel_rfl) (by simp only [pickOps, ugT, ug0, ug1]; rfl) (by rfl) ?_
     intro K hK
     refine wp_store_row 122 (.tmp 5) (.tmp 24) rfl bb #[.int .i64 yd, .int .i64 yw, .bool yi] rfl rfl 122 _ Z2_3.out size122 rfl (by simp [Value.oneCell']) ?_
     have S4 := grew_setRow S3 (show wd.heap.size ≤ bb by omega) #[.int .i64 yd, .int .i64 yw, .bool yi]
     refine hK _ _ S4 ?_
     clear hK K
     have Z4 : Hid (Blk (v3.setRow bb #[.int .i64 yd, .int .i64 yw, .bool yi]) bb 122 [.int .i64 yd, .int .i64 yw, .bool yi]) := setRow_heap v3 bb _ #[.int .i64 yd, .int .i64 yw, .bool yi] 122 (0, 0) Z2_3.out
     have Z3_4 := Lib.hid (Z3.out.kept (grown_setRow v3 bb #[.int .i64 yd, .int .i64 yw, .bool yi]) (fun e => by injection e; omega))
     obtain ⟨v4, hv4⟩ : ∃ y, y = v3.setRow bb #[.int .i64 yd, .int .i64 yw, .bool yi] := ⟨_, rfl⟩
     rw [← hv4] at S4 Z4 Z3_4 ⊢
     clear hv4
     simp only [Act.put]
     refine wpAnyH_done (by kernel_rfl) ?_ _
     have J := HJ.out (ba, bb) _ ⟨Z3_4, Z4, Lib.hid (gwd.trans S4)⟩
     simp only [Act.put, uzT, uz0, uz1] at J
     exact J
    ·intro K hK
     go_simp
     have S5 := (Grew.refl wd).alloc (.cells #[.int .i64 0, .int .i64 0, .bool false] 122)
     refine hK _ _ S5 ?_
     clear hK K
     obtain ⟨v5, hv5⟩ : ∃ y, y = wd.alloc (.cells #[.int .i64 0, .int .i64 0, .bool false] 122) := ⟨_, rfl⟩
     have gz5 : Grew wd v5 := by rw [hv5]; exact (Grew.refl _).alloc _
     have Z5 : Hid (Blk v5 wd.heap.size 122 [.int .i64 0, .int .i64 0, .bool false]) := by unfold Hid; rw [hv5]; exact Blk.new wd 122 [.int .i64 0, .int .i64 0, .bool false]
     have le5 := (Grew.refl wd).le
     obtain ⟨bb, hb5⟩ : ∃ z, z = wd.heap.size := ⟨_, rfl⟩
     have hw5 : wd.heap.size ≤ bb := by rw [hb5]; exact le5
     rw [← hv5] at S5 ⊢
     rw [← hb5] at Z5 ⊢
     clear hv5 hb5 le5
     (try simp only [Act.put, uzT, uz0, uz1])
     refine wpAnyH_step (i := 8) (by kernel_rfl) (fuel' := 2) (by kernel_rfl) (by simp only [pickOps, ugT, ug0, ug1]; rfl) (by rfl) ?_
     intro K hK
     go_simp
     have S6 := S5.alloc (.cells #[.int .i64 0, .int .i64 0, .bool false] 122)
     refine hK _ _ S6 ?_
     clear hK K
     obtain ⟨v6, hv6⟩ : ∃ y, y = v5.alloc (.cells #[.int .i64 0, .int .i64 0, .bool false] 122) := ⟨_, rfl⟩
     have gz6 : Grew v5 v6 := by rw [hv6]; exact (Grew.refl _).alloc _
     have Z6 : Hid (Blk v6 v5.heap.size 122 [.int .i64 0, .int .i64 0, .bool false]) := by unfold Hid; rw [hv6]; exact Blk.new v5 122 [.int .i64 0, .int .i64 0, .bool false]
     have le6 := S5.le
     obtain ⟨ba, hb6⟩ : ∃ z, z = v5.heap.size := ⟨_, rfl⟩
     have hw6 : wd.heap.size ≤ ba := by rw [hb6]; exact le6
     rw [← hv6] at S6 ⊢
     rw [← hb6] at Z6 ⊢
     have Z5_6 := Lib.hid (Z5.out.grew gz6)
     have ne6 : bb ≠ ba := by have := Z5.out.lt; omega
     clear hv6 hb6 le6
     (try simp only [Act.put, uzT, uz0, uz1])
     refine wpAnyH_step (i := 10) (by kernel_rfl) (fuel' := 1) (by kernel_rfl) (by simp only [pickOps, ugT, ug0, ug1]; rfl) (by rfl) ?_
     intro K hK
     refine wp_store_row 122 (.tmp 4) (.tmp 20) rfl ba #[.int .i64 xd, .int .i64 xw, .bool xi] rfl rfl 122 _ Z6.out size122 rfl (by simp [Value.oneCell']) ?_
     have S7 := grew_setRow S6 (show wd.heap.size ≤ ba by omega) #[.int .i64 xd, .int .i64 xw, .bool xi]
     refine hK _ _ S7 ?_
     clear hK K
     have Z7 : Hid (Blk (v6.setRow ba #[.int .i64 xd, .int .i64 xw, .bool xi]) ba 122 [.int .i64 xd, .int .i64 xw, .bool xi]) := setRow_heap v6 ba _ #[.int .i64 xd, .int .i64 xw, .bool xi] 122 (0, 0) Z6.out
     have Z5_6_7 := Lib.hid (Z5_6.out.kept (grown_setRow v6 ba #[.int .i64 xd, .int .i64 xw, .bool xi]) (fun e => by injection e; omega))
     obtain ⟨v7, hv7⟩ : ∃ y, y = v6.setRow ba #[.int .i64 xd, .int .i64 xw, .bool xi] := ⟨_, rfl⟩
     rw [← hv7] at S7 Z7 Z5_6_7 ⊢
     clear hv7
     simp only [Act.put]
     refine wpAnyH_step (i := 11) (by kernel_rfl) (fuel' := 0) (by kernel_rfl) (by simp only [pickOps, ugT, ug0, ug1]; rfl) (by rfl) ?_
     intro K hK
     refine wp_store_row 122 (.tmp 5) (.tmp 24) rfl bb #[.int .i64 yd, .int .i64 yw, .bool yi] rfl rfl 122 _ Z5_6_7.out size122 rfl (by simp [Value.oneCell']) ?_
     have S8 := grew_setRow S7 (show wd.heap.size ≤ bb by omega) #[.int .i64 yd, .int .i64 yw, .bool yi]
     refine hK _ _ S8 ?_
     clear hK K
     have Z8 : Hid (Blk (v7.setRow bb #[.int .i64 yd, .int .i64 yw, .bool yi]) bb 122 [.int .i64 yd, .int .i64 yw, .bool yi]) := setRow_heap v7 bb _ #[.int .i64 yd, .int .i64 yw, .bool yi] 122 (0, 0) Z5_6_7.out
     have Z7_8 := Lib.hid (Z7.out.kept (grown_setRow v7 bb #[.int .i64 yd, .int .i64 yw, .bool yi]) (fun e => by injection e; omega))
     obtain ⟨v8, hv8⟩ : ∃ y, y = v7.setRow bb #[.int .i64 yd, .int .i64 yw, .bool yi] := ⟨_, rfl⟩
     rw [← hv8] at S8 Z8 Z7_8 ⊢
     clear hv8
     simp only [Act.put]
     refine wpAnyH_done (by kernel_rfl) ?_ _
     have J := HJ.out (ba, bb) _ ⟨Z7_8, Z8, Lib.hid (gwd.trans S8)⟩
     simp only [Act.put, uzT, uz0, uz1] at J
     exact J
   ·rintro ⟨ba, bb⟩ w2 ⟨HBA, HBB, HRR⟩
    simp only at HBA HBB
    simp only [Act.put, uzT, uz0, uz1]
    clear s0 s2 c0 c1 c2 d0 d1 d2
    have u0 : w2.cell? ⟨ba, 0, none⟩ = some (.int .i64 xd) := HBA.out.cell rfl
    have u1 : w2.cell? ⟨ba, 1, none⟩ = some (.int .i64 xw) := HBA.out.cell rfl
    have u2 : w2.cell? ⟨ba, 2, none⟩ = some (.bool xi) := HBA.out.cell rfl
    have v0 : w2.cell? ⟨bb, 0, none⟩ = some (.int .i64 yd) := HBB.out.cell rfl
    have v1 : w2.cell? ⟨bb, 1, none⟩ = some (.int .i64 yw) := HBB.out.cell rfl
    have v2 : w2.cell? ⟨bb, 2, none⟩ = some (.bool yi) := HBB.out.cell rfl
    cases xi with
    | true =>
     have HN : Hid (t = false) := HTT.out.symm
     go_wp2_with fail
     refine (require96 _ _).mono ?_
     rintro r w4 ⟨hj, rfl⟩
     obtain rfl : r = .panicked failC := hj
     exact ⟨rfl, by rw [HN.out]; exact judge_false rfl, G1.out.trans HRR.out⟩
    | false =>
     cases yi with
     | true =>
      have HN : Hid (t = false) := HTT.out.symm
      go_wp2_with fail
      refine (require96 _ _).mono ?_
      rintro r w4 ⟨hj, rfl⟩
      obtain rfl : r = .panicked failC := hj
      exact ⟨rfl, by rw [HN.out]; exact judge_false rfl, G1.out.trans HRR.out⟩
     | false =>
      by_cases h3 : xd = yd
      ·have q3 : (xd == yd) = true := by simpa using h3
       by_cases h4 : xw < yw
       ·have q4 : decide (xw < yw) = true := decide_eq_true h4
        have HN : Hid (t = true) := by unfold Hid; rw [← HTT.out, decide_eq_true h3, q4]; rfl
        clear h3 h4 HTT
        go_wp2_with fail
        refine (require96 _ _).mono ?_
        rintro r w4 ⟨hj, rfl⟩
        obtain rfl : r = .returned (.tuple #[]) := hj
        go_wp2
        refine bodyPost_end (results_none rfl _ _ _) rfl ?_
        exact ⟨by rw [HN.out]; exact judge_true rfl, G1.out.trans HRR.out⟩
       ·have q4 : decide (xw < yw) = false := decide_eq_false h4
        have HN : Hid (t = false) := by unfold Hid; rw [← HTT.out, q4]; simp
        clear h3 h4 HTT
        go_wp2_with fail
        refine (require96 _ _).mono ?_
        rintro r w4 ⟨hj, rfl⟩
        obtain rfl : r = .panicked failC := hj
        exact ⟨rfl, by rw [HN.out]; exact judge_false rfl, G1.out.trans HRR.out⟩
      ·have q3 : (xd == yd) = false := by simpa using h3
       have HN : Hid (t = false) := by unfold Hid; rw [← HTT.out, decide_eq_false h3]; simp
       clear h3 HTT
       go_wp2_with fail
       refine (require96 _ _).mono ?_
       rintro r w4 ⟨hj, rfl⟩
       obtain rfl : r = .panicked failC := hj
       exact ⟨rfl, by rw [HN.out]; exact judge_false rfl, G1.out.trans HRR.out⟩
  ·have r3 : (cn == 2) = false := by simpa using h2
   have r4 : ((cn : Int) == 2) = false := by simp; omega
   have HN : Hid (t = false) := by
    unfold Hid
    rw [← HT.out]
    have hl := HLN.out
    match cl, hl with
    | [], _ => exact Bool.and_false _
    | [x], _ => exact Bool.and_false _
    | [x, y], hl => exact absurd hl.symm h2
    | x :: y :: z :: r, _ => exact Bool.and_false _
   clear h1 h2 HT
   go_wp2_with fail
   refine (require96 _ _).mono ?_
   rintro r w4 ⟨hj, rfl⟩
   obtain rfl : r = .panicked failC := hj
   exact ⟨rfl, by rw [HN.out]; exact judge_false rfl, G1.out⟩
 ·have r1 : (fn == 0) = false := by simpa using h1
  have r2 : ((fn : Int) == 0) = false := by simp; omega
  have HN : Hid (t = false) := by unfold Hid; rw [← HT.out, decide_eq_false h1, Bool.false_and]
  clear h1 HT
  go_wp2_with fail
  refine (require96 _ _).mono ?_
  rintro r w4 ⟨hj, rfl⟩
  obtain rfl : r = .panicked failC := hj
  exact ⟨rfl, by rw [HN.out]; exact judge_false rfl, G1.out⟩
end Go.Proofs.YtnnbibmmofnkdaaGreat
