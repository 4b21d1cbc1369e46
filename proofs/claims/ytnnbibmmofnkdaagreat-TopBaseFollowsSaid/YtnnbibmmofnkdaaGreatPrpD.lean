/-
 Propagations: add, walked.
-/
import Derived.Test.YtnnbibmmofnkdaaGreatPrpC
namespace Go.Proofs.YtnnbibmmofnkdaaGreat
open Go.RowKit Go.Proofs WageMem WageReg WageRec WageSpan WageTop
open WageMap
theorem cut_lawX {P : Program} {c : Code} {Q : Exit → Act → World → Prop} {a : Act} {w : World} {X : Type} (F : Act → X → Act) (R : World → Prop) (hJ : ∀ x w', R w' → Q .normal (F a x) w') (h : c.wp P (fun ex a' w' => match ex with | .normal => (∃ x, a' = F a x) ∧ R w' | _ => False) a w) : c.wp P Q a w :=
 Code.wp_mono (fun e a' w' h => by
  cases e with
  | normal => obtain ⟨⟨x, rfl⟩, h⟩ := h; exact hJ x w' h
  | _ => exact h.elim) h
theorem exam_U {s s' : Pg} {i : Nat} (h : s.exam i s') : s'.U.length ≤ s.U.length + 1 := by
 obtain ⟨_, _, _, _, h⟩ := h
 split at h
 ·rw [h.2]; omega
 ·split at h
  ·rw [h.2.length_eq, List.length_append]; exact Nat.le_refl _
  ·rw [h.2]; omega
theorem dec_bound {op : List Int} {i k : Nat} (h : ∀ j, -(k : Int) ≤ op.getD j 0 ∧ op.getD j 0 ≤ 1000000) : ∀ j, -((k + 1 : Nat) : Int) ≤ (op.set i (op.getD i 0 - 1)).getD j 0 ∧ (op.set i (op.getD i 0 - 1)).getD j 0 ≤ 1000000 := fun j => by
 have h1 := h j
 have h2 := h i
 rw [List.getD_eq_getElem?_getD, List.getElem?_set]
 by_cases e : i = j
 ·subst e
  rw [if_pos rfl]
  by_cases e2 : i < op.length
  ·rw [if_pos e2]
   show -((k + 1 : Nat) : Int) ≤ op.getD i 0 - 1 ∧ op.getD i 0 - 1 ≤ 1000000
   omega
  ·rw [if_neg e2]
   show -((k + 1 : Nat) : Int) ≤ 0 ∧ (0 : Int) ≤ 1000000
   omega
 ·rw [if_neg e, ← List.getD_eq_getElem?_getD]
  omega
def RetAd (pl : Li → List Nat) (q : Pp) (R : Nat → Prop) (s : Pg) (l : Li) (w : World) (e : Ending) (w' : World) : Prop := ∃ s', e = .returned (.tuple #[]) ∧ AddR pl s l s' ∧ PgAt w' q R s' ∧ KeepD R w w'
set_option maxRecDepth 100000 in
set_option maxHeartbeats 8000000 in
theorem add60 {w : World} {q : Pp} {R : Nat → Prop} {s : Pg} {pl : Li → List Nat} (h : PgAt w q R s) (hpl : PlcAt w q R pl) (l : Li) (hn : s.lst.length + 1 ≤ 1000000) (hU : s.U.length + (pl l.neg).length ≤ 1000000) (hp2 : ∀ x, (pl x).length ≤ 1000000) (hop : ∀ i, 0 ≤ s.op.getD i 0 ∧ s.op.getD i 0 ≤ 1000000) :
  Calls Tryz.prog 60 #[.pointer (some ⟨q.b, 0, none⟩), ekL l] w (RetAd pl q R s l w) := by
 obtain ⟨i0, hi0, hz0, hz1, hz2⟩ := info_parts info122
 obtain ⟨ld, lw, li⟩ := l
 show Calls Tryz.prog 60 #[.pointer (some ⟨q.b, 0, none⟩), .agg #[.int .i64 ld, .int .i64 lw, .bool li]] w _
 obtain ⟨w1, hw1⟩ : ∃ y, y = w.alloc (.cells #[.int .i64 ld, .int .i64 lw, .bool li] 122) := ⟨_, rfl⟩
 obtain ⟨lb, hlb⟩ : ∃ z, z = w.heap.size := ⟨_, rfl⟩
 have g1 : Grew w w1 := by rw [hw1]; exact (Grew.refl w).alloc _
 have B1 : Hid (Blk w1 lb 122 [.int .i64 ld, .int .i64 lw, .bool li]) := by unfold Hid; rw [hw1, hlb]; exact Blk.new w 122 _
 have H1 : Hid (PgAt w1 q (fun j => R j ∨ j = lb) s) := h.more g1 (by omega) B1.out.lt
 have HK1 : Hid (KeepD R w w1) := KeepD.grew g1
 have HPL := Lib.hid (hpl.keep HK1.out)
 clear h hpl g1
 go_enter Tryz.func60, Tryz.ntmps60
 go_upto_region 1 with (fail)
 rw [← hw1, ← hlb]
 clear hw1 hlb
 obtain ⟨LA, lc, c0, OL, hall⟩ := H1.out.list ⟨ld, lw, li⟩
 have HALL := Lib.hid hall
 have HLB : Hid (∀ g, Value.ownBlock (.slice LA s.lst.length lc) = some g → g ≠ lb) := by
  obtain ⟨LA', lc', _, _, _, _, HP, _, _, _, hLR, _⟩ := H1.out.ex
  have e := HP.hd.cell (i := 0) rfl
  rw [c0] at e
  injection e with e
  injection e with e1 e2 e3
  subst e1 e3
  intro g hg hh
  subst hh
  exact hLR _ hg (.inr rfl)
 have HOL := Lib.hid OL
 have HGL0 : Hid (∀ g, Value.ownBlock (.slice LA s.lst.length lc) = some g → g ≠ lb) := fun g hg => HLB.out g hg
 obtain ⟨ln, hln⟩ : ∃ n, s.lst.length = n := ⟨_, rfl⟩
 have hC : ∀ w', Grew w1.drew w' → w'.cell? ⟨q.b, 0, none⟩ = some (.slice LA ln lc) ∧ w'.cell? ⟨lb, 0, none⟩ = some (.int .i64 ld) ∧ w'.cell? ⟨lb, 1, none⟩ = some (.int .i64 lw) ∧ w'.cell? ⟨lb, 2, none⟩ = some (.bool li) := fun w' g' => by
  have gg := (Grew.refl w1).drew.trans g'
  rw [← hln]
  exact ⟨gg.cell c0, gg.cell (B1.out.cell rfl), gg.cell (B1.out.cell rfl), gg.cell (B1.out.cell rfl)⟩
 have HC := Lib.hid hC
 rw [hln] at HALL HOL hn
 have HLN := Lib.hid hln
 have HGL : Hid (∀ g, Value.ownBlock (.slice LA ln lc) = some g → g ≠ lb) := fun g hg => HGL0.out g (by rw [hln]; exact hg)
 clear hC c0 OL hall hln
 have HS0 : Hid (∀ w', Grew w1 w' → (w'.cell? ⟨lb, 0, none⟩ = some (.int .i64 ld) ∧ w'.cell? ⟨lb, 1, none⟩ = some (.int .i64 lw) ∧ w'.cell? ⟨lb, 2, none⟩ = some (.bool li))) := fun w' g' => ⟨g'.cell (B1.out.cell rfl), g'.cell (B1.out.cell rfl), g'.cell (B1.out.cell rfl)⟩
 refine cut_lawX (X := Option Addr × Nat × Nat) (fun a x => (((((((((a.put (some 8) (.pointer (some ⟨q.b, 0, none⟩))).put (some 9) (.pointer (some ⟨q.b, 0, none⟩))).put (some 10) (.pointer (some ⟨q.b, 0, none⟩))).put (some 11) (.pointer (some ⟨q.b, 0, none⟩))).put (some 12) (.slice LA ln lc)).put (some 13) (.agg #[.int .i64 ld, .int .i64 lw, .bool li])).put (some 14) (.slice (some ⟨x.2.2, 0, none⟩) 1 1)).put (some 15) (.slice x.1 (ln + 1) x.2.1)).put (some 16) (.pointer (some ⟨q.b, 0, none⟩))).put (some 17) (.pointer (some ⟨q.b, 0, none⟩))) (fun w' => Hid (PgAt w' q (fun j => R j ∨ j = lb) { s with lst := s.lst ++ [⟨ld, lw, li⟩] }) ∧ Hid (KeepD (fun j => R j ∨ j = lb) w1 w')) ?_ ?_
 rotate_left
 ·refine wp_region_H (by kernel_rfl) (fun w' => w'.cell? ⟨lb, 0, none⟩ = some (.int .i64 ld) ∧ w'.cell? ⟨lb, 1, none⟩ = some (.int .i64 lw) ∧ w'.cell? ⟨lb, 2, none⟩ = some (.bool li)) ?_
  refine wpAnyH_takes (fun _ _ _ _ _ h => h) (HS0.out _ (Grew.refl w1).drew) [0, 1, 2, 3, 5] (fuel' := 6) (by kernel_rfl) (by kernel_rfl) (by simp only [pickOps, ugT, ug0, ug1]; rfl) ?_
  repeat (first
   | (refine TakeP.pure (v := ?_) (by rfl) ?_ ?_; rotate_left; (intro w' g'; obtain ⟨q_1, q_2, q_3⟩ := g'; go_simp; first | done | with_reducible rfl); (simp only [Act.put, uzT, uz0, uz1]))
   | (refine TakeP.skip (by rfl) ?_; (simp only [Act.put, uzT, uz0, uz1])))
  refine TakeP.nil ?_
  obtain ⟨wd, hwd⟩ : ∃ y, y = w1.drew := ⟨_, rfl⟩
  have gd : Grew w1 wd := by rw [hwd]; exact (Grew.refl w1).drew
  have d4 : wd.cell? ⟨q.b, 0, none⟩ = some (.slice LA ln lc) := by rw [hwd]; exact (HC.out _ (Grew.refl _)).1
  rw [← hwd]
  clear hwd HC
  obtain ⟨wy, hwy⟩ : ∃ y, y = wd.alloc (.cells #[.int .i64 ld, .int .i64 lw, .bool li] 122) := ⟨_, rfl⟩
  obtain ⟨b5, hb5⟩ : ∃ z, z = wd.heap.size := ⟨_, rfl⟩
  have BI : Hid (Sl wy 3 (some ⟨b5, 0, none⟩) 1 1 ([(⟨ld, lw, li⟩ : Li)].flatMap encL)) := by unfold Hid; rw [hwy, hb5]; exact builtS (w := wd) (t := 122) 3 1 #[.int .i64 ld, .int .i64 lw, .bool li] _ rfl rfl (by decide)
  have gdy : Grew wd wy := by rw [hwy]; exact (Grew.refl wd).alloc _
  have gy : Grew w1 wy := gd.trans gdy
  have d5 : wy.cell? ⟨q.b, 0, none⟩ = some (.slice LA ln lc) := gdy.cell d4
  have sd := HS0.out wd gd
  have sy := HS0.out wy gy
  clear HS0
  refine wpAnyH_two (i := 4) (j := 6) (by decide +kernel) (fuel' := 5) (by kernel_rfl) (by simp only [pickOps, ugT, ug0, ug1]; rfl) rfl (by simp only [pickOps, ugT, ug0, ug1]; rfl) rfl ?_ ?_
  all_goals (intro K hK; go_simp; try rw [← hwy, ← hb5])
  ·refine hK _ _ sd ?_
   clear hK K
   try simp only [Act.put, uzT, uz0, uz1]
   refine wpAnyH_step (i := 6) (by decide +kernel) (fuel' := 4) (by kernel_rfl) (by simp only [pickOps, ugT, ug0, ug1]; rfl) (by rfl) ?_
   intro K hK
   go_simp
   rw [← hwy, ← hb5]
   refine hK _ _ sy ?_
   clear hK K hwy hb5
   try simp only [Act.put, uzT, uz0, uz1]
   clear sd d4 gd gdy
   refine wpAnyH_step (i := 7) (by decide +kernel) (fuel' := 3) (by kernel_rfl) (by simp only [pickOps, ugT, ug0, ug1]; rfl) (by rfl) ?_
   intro K hK
   refine wp_append_sl _ (.tmp 12) (.tmp 14) 69 rfl q.base 122 i0 (.agg #[.int .i64 0, .int .i64 0, .bool false]) 3 24 Tryz.underlying69 hi0 hz0 hz1 hz2 rfl (by decide) (.slice LA ln lc) ln _ rfl (own_grew HOL.out gy) (some ⟨b5, 0, none⟩) 1 1 _ rfl BI.out (WageRec.flat_one encL_ok _) (by unfold maxLen; omega) (by omega) (Nat.le_trans H1.out.base gy.le) ?_
   intro v7 w7 own7 hg7 hat7
   obtain ⟨A7, c7, rfl⟩ := own_form own7
   have hlg : ∀ g, Value.ownBlock (.slice LA ln lc) = some g → g ≠ lb := fun g hg => HGL.out g hg
   have s7 : w7.cell? ⟨lb, 0, none⟩ = some (.int .i64 ld) ∧ w7.cell? ⟨lb, 1, none⟩ = some (.int .i64 lw) ∧ w7.cell? ⟨lb, 2, none⟩ = some (.bool li) :=
    ⟨hg7.cell sy.1 (fun e => hlg lb e.symm rfl), hg7.cell sy.2.1 (fun e => hlg lb e.symm rfl), hg7.cell sy.2.2 (fun e => hlg lb e.symm rfl)⟩
   obtain ⟨⟨d0, f0⟩, H8, K8⟩ := HALL.out wy w7 A7 c7 gy hg7 own7 hat7
   have H8 := Lib.hid H8
   have K8 := Lib.hid K8
   refine hK _ _ s7 ?_
   clear hK K own7 hg7 hat7 gy BI HALL HOL sy d5
   try simp only [Act.put, uzT, uz0, uz1]
   refine wpAnyH_step (i := 8) (by decide +kernel) (fuel' := 2) (by kernel_rfl) (by simp only [pickOps, ugT, ug0, ug1]; rfl) (by rfl) ?_
   intro K hK
   go_simp
   refine hK _ _ s7 ?_
   clear hK K
   try simp only [Act.put, uzT, uz0, uz1]
   refine wpAnyH_step (i := 9) (by decide +kernel) (fuel' := 1) (by kernel_rfl) (by simp only [pickOps, ugT, ug0, ug1]; rfl) (by rfl) ?_
   intro K hK
   go_simp
   refine hK _ _ s7 ?_
   clear hK K
   try simp only [Act.put, uzT, uz0, uz1]
   refine wpAnyH_step (i := 10) (by decide +kernel) (fuel' := 0) (by kernel_rfl) (by simp only [pickOps, ugT, ug0, ug1]; rfl) (by rfl) ?_
   intro K hK
   go_simp
   refine hK _ _ ⟨K8.out.cell (.inr rfl) (B1.out.cell rfl), K8.out.cell (.inr rfl) (B1.out.cell rfl), K8.out.cell (.inr rfl) (B1.out.cell rfl)⟩ ?_
   clear hK K
   exact wpAnyH_done (by decide +kernel) ⟨⟨(A7, c7, b5), rfl⟩, HLN.out ▸ H8, HLN.out ▸ K8⟩ _
  ·refine hK _ _ sy ?_
   clear hK K hwy hb5
   try simp only [Act.put, uzT, uz0, uz1]
   refine wpAnyH_step (i := 4) (by decide +kernel) (fuel' := 4) (by kernel_rfl) (by simp only [pickOps, ugT, ug0, ug1]; rfl) (by rfl) ?_
   intro K hK
   go_simp
   refine hK _ _ sy ?_
   clear hK K
   try simp only [Act.put, uzT, uz0, uz1]
   clear sd d4 gd gdy
   refine wpAnyH_step (i := 7) (by decide +kernel) (fuel' := 3) (by kernel_rfl) (by simp only [pickOps, ugT, ug0, ug1]; rfl) (by rfl) ?_
   intro K hK
   refine wp_append_sl _ (.tmp 12) (.tmp 14) 69 rfl q.base 122 i0 (.agg #[.int .i64 0, .int .i64 0, .bool false]) 3 24 Tryz.underlying69 hi0 hz0 hz1 hz2 rfl (by decide) (.slice LA ln lc) ln _ rfl (own_grew HOL.out gy) (some ⟨b5, 0, none⟩) 1 1 _ rfl BI.out (WageRec.flat_one encL_ok _) (by unfold maxLen; omega) (by omega) (Nat.le_trans H1.out.base gy.le) ?_
   intro v7 w7 own7 hg7 hat7
   obtain ⟨A7, c7, rfl⟩ := own_form own7
   have hlg : ∀ g, Value.ownBlock (.slice LA ln lc) = some g → g ≠ lb := fun g hg => HGL.out g hg
   have s7 : w7.cell? ⟨lb, 0, none⟩ = some (.int .i64 ld) ∧ w7.cell? ⟨lb, 1, none⟩ = some (.int .i64 lw) ∧ w7.cell? ⟨lb, 2, none⟩ = some (.bool li) :=
    ⟨hg7.cell sy.1 (fun e => hlg lb e.symm rfl), hg7.cell sy.2.1 (fun e => hlg lb e.symm rfl), hg7.cell sy.2.2 (fun e => hlg lb e.symm rfl)⟩
   obtain ⟨⟨d0, f0⟩, H8, K8⟩ := HALL.out wy w7 A7 c7 gy hg7 own7 hat7
   have H8 := Lib.hid H8
   have K8 := Lib.hid K8
   refine hK _ _ s7 ?_
   clear hK K own7 hg7 hat7 gy BI HALL HOL sy d5
   try simp only [Act.put, uzT, uz0, uz1]
   refine wpAnyH_step (i := 8) (by decide +kernel) (fuel' := 2) (by kernel_rfl) (by simp only [pickOps, ugT, ug0, ug1]; rfl) (by rfl) ?_
   intro K hK
   go_simp
   refine hK _ _ s7 ?_
   clear hK K
   try simp only [Act.put, uzT, uz0, uz1]
   refine wpAnyH_step (i := 9) (by decide +kernel) (fuel' := 1) (by kernel_rfl) (by simp only [pickOps, ugT, ug0, ug1]; rfl) (by rfl) ?_
   intro K hK
   go_simp
   refine hK _ _ s7 ?_
   clear hK K
   try simp only [Act.put, uzT, uz0, uz1]
   refine wpAnyH_step (i := 10) (by decide +kernel) (fuel' := 0) (by kernel_rfl) (by simp only [pickOps, ugT, ug0, ug1]; rfl) (by rfl) ?_
   intro K hK
   go_simp
   refine hK _ _ ⟨K8.out.cell (.inr rfl) (B1.out.cell rfl), K8.out.cell (.inr rfl) (B1.out.cell rfl), K8.out.cell (.inr rfl) (B1.out.cell rfl)⟩ ?_
   clear hK K
   exact wpAnyH_done (by decide +kernel) ⟨⟨(A7, c7, b5), rfl⟩, HLN.out ▸ H8, HLN.out ▸ K8⟩ _
 rintro ⟨A7, c7, b5⟩ w2 ⟨H2, K2⟩
 obtain ⟨s2, hs2⟩ : ∃ z : Pg, z = { s with lst := s.lst ++ [(⟨ld, lw, li⟩ : Li)] } := ⟨_, rfl⟩
 rw [← hs2] at H2
 have HS2 := Lib.hid hs2
 have hT : s2.T = s.T := by rw [hs2]
 have HT := Lib.hid hT
 have HK2 := Lib.hid (HK1.out.trans (keepB_mono K2.out (fun _ h => .inl h)))
 have B2 : Hid (Blk w2 lb 122 [.int .i64 ld, .int .i64 lw, .bool li]) := K2.out.2 _ _ (.inr rfl) B1.out
 have HPL2 := Lib.hid (HPL.out.keep (keepB_mono K2.out (fun _ h => .inl h)))
 clear hs2 hT B1 H1 HK1 HPL HC HALL HOL HLN HGL HGL0 HLB K2
 simp only [Act.put, uzT, uz0, uz1]
 have hC : ∀ w', Grew w2 w' → (w'.cell? ⟨q.b, 1, none⟩ = some (.map (some q.b1)) ∧ w'.cell? ⟨q.b, 2, none⟩ = some (.map (some q.b2))) ∧ (w'.cell? ⟨lb, 0, none⟩ = some (.int .i64 ld) ∧ w'.cell? ⟨lb, 1, none⟩ = some (.int .i64 lw) ∧ w'.cell? ⟨lb, 2, none⟩ = some (.bool li)) ∧ (Instr.lookup 127 (.map (some q.b1)) (.agg #[.int .i64 ld, .int .i64 lw, .bool li]) false).run Tryz.prog w' = .ok (.bool (s2.T.contains ⟨ld, lw, li⟩)) w' := fun w' g' =>
  ⟨⟨g'.cell H2.out.cells.2.2.2.1, g'.cell H2.out.cells.2.2.2.2.1⟩, ⟨g'.cell (B2.out.cell rfl), g'.cell (B2.out.cell rfl), g'.cell (B2.out.cell rfl)⟩, H2.out.look ⟨ld, lw, li⟩ w' g'⟩
 have HC2 := Lib.hid hC
 obtain ⟨tt, htt⟩ : ∃ z, s2.T.contains ⟨ld, lw, li⟩ = z := ⟨_, rfl⟩
 rw [htt] at HC2
 have HTT := Lib.hid htt
 clear hC htt
 go_upto_region 2 with (fail)
 refine wp_region_seq (by kernel_rfl) Grew.refl (fun _ _ _ => Grew.trans) (fun _ _ _ _ _ h => h) (by kernel_rfl) ?_
 repeat (first
  | (refine TakeAll.pure (v := ?_) (by rfl) ?_ ?_; rotate_left; (intro w' g'; obtain ⟨⟨q_0, q_1⟩, ⟨q_2, q_3, q_4⟩, q_5⟩ := HC2.out w' ((Grew.refl w2).drew.trans g'); go_simp; first | done | with_reducible rfl); (simp only [Act.put, uzT, uz0, uz1]))
  | (refine TakeAll.skip (by rfl) ?_; (simp only [Act.put, uzT, uz0, uz1])))
 refine TakeAll.nil ?_
 intro w3 g3
 have gg3 := (Grew.refl w2).drew.trans g3
 have H3 := Lib.hid (H2.out.grew gg3)
 have HK3 := Lib.hid (HK2.out.trans (KeepD.grew gg3))
 have HPL3 := Lib.hid (HPL2.out.keep (KeepD.grew gg3))
 have B3 := Lib.hid (B2.out.grew gg3)
 have hC3 : ∀ w', Grew w3 w' → _ := fun w' g' => HC2.out w' (gg3.trans g')
 have HC3 := Lib.hid hC3
 clear hC3
 clear g3 gg3 H2 HK2 HPL2 B2 HC2
 cases tt with
 | true =>
  have HA : Hid (AddR pl s ⟨ld, lw, li⟩ s2) := by
   unfold Hid AddR
   have h1 := HTT.out
   rw [HT.out] at h1
   rw [h1, if_pos rfl]
   exact HS2.out
  go_wp2_with fail
  go_end0
  exact ⟨s2, rfl, HA.out, H3.out.less (fun _ h => .inl h), HK3.out⟩
 | false =>
  have HF : Hid (s.T.contains ⟨ld, lw, li⟩ = false) := by have h1 := HTT.out; rw [HT.out] at h1; exact h1
  go_upto_region 3 with (fail)
  refine wp_region_G (by kernel_rfl) Grew.refl 5 ?_
  refine wpAnyG_takes Grew.refl (fun _ _ _ => Grew.trans) (fun _ _ _ _ _ h => h) [0, 1, 2, 3, 4] (fuel' := 1) (by kernel_rfl) (by kernel_rfl) (by simp only [pickOps, ugT, ug0, ug1]; rfl) ?_
  repeat (first
   | (refine TakeAll.pure (v := ?_) (by rfl) ?_ ?_; rotate_left; (intro w' g'; obtain ⟨⟨q_0, q_1⟩, ⟨q_2, q_3, q_4⟩, q_5⟩ := HC3.out w' ((Grew.refl w3).drew.trans g'); go_simp; first | done | with_reducible rfl); (simp only [Act.put, uzT, uz0, uz1]))
   | (refine TakeAll.skip (by rfl) ?_; (simp only [Act.put, uzT, uz0, uz1])))
  refine TakeAll.nil ?_
  refine wpAnyG_end (by kernel_rfl) (fuel' := 0) (by kernel_rfl) (by simp only [pickOps, ugT, ug0, ug1]; rfl) rfl ?_
  intro w4 g4 K hK
  have G4 := (Grew.refl w3).drew.trans g4
  obtain ⟨wu, up, HU4, KU4⟩ := (H3.out.grew G4).put ⟨ld, lw, li⟩
  replace up : (Instr.mapUpdate 127 (.map (some q.b1)) (.agg #[.int .i64 ld, .int .i64 lw, .bool li]) (.bool true)).run Tryz.prog w4 = .ok () wu := up
  go_simp
  refine hK _ _ ?_
  clear hK K up
  have H5 := Lib.hid HU4
  have HK5 := Lib.hid (HK3.out.trans ((KeepD.grew G4).trans (keepB_mono KU4 (fun _ h => .inl h))))
  have HPL5 := Lib.hid ((HPL3.out.keep (KeepD.grew G4)).keep (keepB_mono KU4 (fun _ h => .inl h)))
  have B5 : Hid (Blk wu lb 122 [.int .i64 ld, .int .i64 lw, .bool li]) := KU4.2 _ _ (.inr rfl) (B3.out.grew G4)
  clear HU4 KU4 g4 G4 H3 HK3 HPL3 B3 HC3
  refine wpAny_rest (fun _ _ _ _ _ h => h) [] (by kernel_rfl) (by kernel_rfl) (by kernel_rfl) rfl (TakeAll.nil ?_)
  obtain ⟨PA, pn, pc, hlk, hpi, hpr, hpn, hplt⟩ := HPL5.out.look ⟨ld, lw, li⟩
  obtain ⟨s5, hs5⟩ : ∃ z : Pg, z = { s2 with T := ⟨ld, lw, li⟩ :: s2.T } := ⟨_, rfl⟩
  rw [← hs5] at H5
  have HS5 := Lib.hid hs5
  have HPI := Lib.hid hpi
  have HPR := Lib.hid hpr
  have HPN := Lib.hid hpn
  have HPT := Lib.hid hplt
  have hpn9 : pn ≤ 1000000 := by rw [hpn]; exact hp2 _
  have hC : ∀ w', Grew wu w' → w'.cell? ⟨q.b, 2, none⟩ = some (.map (some q.b2)) ∧ (w'.cell? ⟨lb, 0, none⟩ = some (.int .i64 ld) ∧ w'.cell? ⟨lb, 1, none⟩ = some (.int .i64 lw) ∧ w'.cell? ⟨lb, 2, none⟩ = some (.bool li)) ∧ (Instr.lookup 128 (.map (some q.b2)) (.agg #[.int .i64 ld, .int .i64 lw, .bool li]) false).run Tryz.prog w' = .ok (.slice PA pn pc) w' := fun w' g' =>
   ⟨g'.cell H5.out.cells.2.2.2.2.1, ⟨g'.cell (B5.out.cell rfl), g'.cell (B5.out.cell rfl), g'.cell (B5.out.cell rfl)⟩, hlk w' g'⟩
  have HC5 := Lib.hid hC
  clear hC hs5 hpi hpr hpn hplt hlk
  go_upto_region 4 with (fail)
  refine wp_region_seq (by kernel_rfl) Grew.refl (fun _ _ _ => Grew.trans) (fun _ _ _ _ _ h => h) (by kernel_rfl) ?_
  repeat (first
   | (refine TakeAll.pure (v := ?_) (by rfl) ?_ ?_; rotate_left; (intro w' g'; obtain ⟨q_0, ⟨q_2, q_3, q_4⟩, q_5⟩ := HC5.out w' ((Grew.refl wu).drew.trans g'); go_simp; first | done | with_reducible rfl); (simp only [Act.put, uzT, uz0, uz1]))
   | (refine TakeAll.skip (by rfl) ?_; (simp only [Act.put, uzT, uz0, uz1])))
  refine TakeAll.nil ?_
  intro w6 g6
  have gg6 := (Grew.refl wu).drew.trans g6
  have H6 := Lib.hid (H5.out.grew gg6)
  have HK6 := Lib.hid (HK5.out.trans (KeepD.grew gg6))
  have HPL6 := Lib.hid (HPL5.out.keep (KeepD.grew gg6))
  have B6 := Lib.hid (B5.out.grew gg6)
  have HPI6 := Lib.hid (HPI.out.grew gg6)
  clear g6 gg6 H5 HK5 HPL5 B5 HC5 HPI
  go_wp2_with fail
  go_loopw [36] (fun i y => ∃ k : Nat, k ≤ pn ∧ i = .int .i64 k ∧ Hid (PgAt y q (fun j => R j ∨ j = lb) { s5 with sa := satL s5.sa ((pl ⟨ld, lw, li⟩).take k) }) ∧ Hid (KeepD (fun j => R j ∨ j = lb) w6 y)) (fun i _ => pn - (intOf i).toNat)
  case atStart => exact ⟨0, Nat.zero_le _, rfl, H6.out, KeepD.refl _⟩
  case round =>
   obtain ⟨k, hk, rfl, HQ, HKr⟩ := hrel
   obtain ⟨c4, c5, _⟩ := HQ.out.cells
   by_cases hlt : k < pn
   ·have HPIr : Ints wr PA pn pc ((pl ⟨ld, lw, li⟩).map Int.ofNat) := ⟨HPI6.out.1, KeepD.sl HPI6.out.2 HKr.out (fun b o e hn => .inl (HPR.out b o e hn))⟩
    obtain ⟨b, o, hA, hcc⟩ := HPIr.at_ (by omega)
    obtain ⟨i, hi⟩ : ∃ i, (pl ⟨ld, lw, li⟩)[k]? = some i := ⟨_, List.getElem?_eq_getElem (by rw [← HPN.out]; exact hlt)⟩
    have p0 : wr.cell? ⟨b, o + k, none⟩ = some (.int .i64 (i : Int)) := hcc k (i : Int) (by rw [List.getElem?_map, hi]; rfl)
    have hiN : i < q.N := HPT.out i (List.mem_of_getElem? hi)
    have hN9 := HQ.out.N
    obtain ⟨bv, hbv⟩ : ∃ v, wr.cell? ⟨q.gS, i, none⟩ = some v := by
     have h1 := HQ.out.sa.cellAt i (by omega)
     exact ⟨_, h1.trans (List.getElem?_eq_getElem (by rw [List.length_map, HQ.out.sl]; exact hiN))⟩
    have fS := HQ.out.sa.frozenAt i
    have e0 : (0 : Int) ≤ (k : Int) := by omega
    have e1 : (k : Int) < (pn : Int) := by omega
    have e2 : (0 : Int) ≤ (i : Int) := by omega
    have e3 : (i : Int) < (q.N : Int) := by omega
    have t1 : decide ((k : Int) < (pn : Int)) = true := decide_eq_true (by omega)
    have HQ2 : Hid (PgAt (wr.setCell ⟨q.gS, i, none⟩ (.bool true)) q (fun j => R j ∨ j = lb) { s5 with sa := satL s5.sa ((pl ⟨ld, lw, li⟩).take (k + 1)) }) := by
     have h1 := (HQ.out.set_sa i true).1
     unfold Hid
     rw [List.take_add_one, hi, Option.toList, satL_snoc]
     exact h1
    have HK2 := Lib.hid (HKr.out.trans (HQ.out.set_sa i true).2)
    obtain ⟨wn, hwn⟩ : ∃ z, z = wr.setCell ⟨q.gS, i, none⟩ (.bool true) := ⟨_, rfl⟩
    rw [← hwn] at HQ2 HK2
    subst hA
    clear hcc hi HPIr hN9 hiN HQ HKr c4
    go_upto_region 8 with (fail)
    rw [← hwn]
    clear hwn hbv fS p0 c5
    go_wp2_with fail
    go_roundw
    case rel => exact ⟨k + 1, by omega, by go_num, HQ2.out, HK2.out⟩
    case measure => simp [intOf]; omega
   ·obtain rfl : pn = k := by omega
    have t1 : decide ((pn : Int) < (pn : Int)) = false := decide_eq_false (by omega)
    obtain ⟨nb, hnb⟩ : ∃ z, (!li) = z := ⟨_, rfl⟩
    have HNB := Lib.hid hnb
    have HNEG : Hid (∀ w0, Calls Tryz.prog 111 #[.agg #[.int .i64 ld, .int .i64 lw, .bool li]] w0 fun r w' => r = .returned (.agg #[.int .i64 ld, .int .i64 lw, .bool nb]) ∧ Grew w0 w') := fun w0 => by rw [← hnb]; exact negate111 ⟨ld, lw, li⟩ w0
    obtain ⟨s6, hs6⟩ : ∃ z : Pg, z = { s5 with sa := satL s5.sa ((pl ⟨ld, lw, li⟩).take pn) } := ⟨_, rfl⟩
    rw [← hs6] at HQ
    have HS6 : Hid (s6 = { s with lst := s.lst ++ [(⟨ld, lw, li⟩ : Li)], T := (⟨ld, lw, li⟩ : Li) :: s.T, sa := satL s.sa (pl ⟨ld, lw, li⟩) }) := by
     have h1 : (pl ⟨ld, lw, li⟩).take pn = pl ⟨ld, lw, li⟩ := List.take_of_length_le (by rw [HPN.out]; exact Nat.le_refl _)
     unfold Hid
     rw [hs6, h1, HS5.out, HS2.out]
    have Br : Hid (Blk wr lb 122 [.int .i64 ld, .int .i64 lw, .bool li]) := HKr.out.2 _ _ (.inr rfl) B6.out
    have HPLr := Lib.hid (HPL6.out.keep (keepB_mono HKr.out (fun _ h => .inl h)))
    have HKr0 := Lib.hid (HK6.out.trans (keepB_mono HKr.out (fun _ h => .inl h)))
    clear hs6 hnb HPI6 HPR HPN HPT HPL6 B6 H6 HK6 HKr t1 c4 c5 HS5 HS2 HT HTT hpn9
    obtain ⟨PB, pm, pd, hlk, hpi, hpr, hpn, hplt⟩ := HPLr.out.look ⟨ld, lw, nb⟩
    have HPI := Lib.hid hpi
    have HPR := Lib.hid hpr
    have HPN := Lib.hid hpn
    have HPT := Lib.hid hplt
    have hpm9 : pm ≤ 1000000 := by rw [hpn]; exact hp2 _
    have hC : ∀ w', Grew wr w' → w'.cell? ⟨q.b, 2, none⟩ = some (.map (some q.b2)) ∧ (w'.cell? ⟨lb, 0, none⟩ = some (.int .i64 ld) ∧ w'.cell? ⟨lb, 1, none⟩ = some (.int .i64 lw) ∧ w'.cell? ⟨lb, 2, none⟩ = some (.bool li)) ∧ (Instr.lookup 128 (.map (some q.b2)) (.agg #[.int .i64 ld, .int .i64 lw, .bool nb]) false).run Tryz.prog w' = .ok (.slice PB pm pd) w' := fun w' g' =>
     ⟨g'.cell HQ.out.cells.2.2.2.2.1, ⟨g'.cell (Br.out.cell rfl), g'.cell (Br.out.cell rfl), g'.cell (Br.out.cell rfl)⟩, hlk w' g'⟩
    have HC9 := Lib.hid hC
    clear hC hpi hpr hpn hplt hlk
    go_upto_region 9 with (fail)
    refine wp_region_seq (by kernel_rfl) Grew.refl (fun _ _ _ => Grew.trans) (fun _ _ _ _ _ h => h) (by kernel_rfl) ?_
    repeat (first
     | (refine TakeAll.pure (v := ?_) (by rfl) ?_ ?_; rotate_left; (intro w' g'; obtain ⟨q_0, ⟨q_2, q_3, q_4⟩, q_5⟩ := HC9.out w' ((Grew.refl wr).drew.trans g'); go_simp; first | done | with_reducible rfl); (simp only [Act.put, uzT, uz0, uz1]))
     | (refine TakeAll.skip (by rfl) ?_; (simp only [Act.put, uzT, uz0, uz1]))
     | (refine TakeAll.call (by rfl) 111 _ (fun _ => by go_simp; first | done | rfl) (fun w' g' => HNEG.out w') ?_; (simp only [Act.put, uzT, uz0, uz1])))
    refine TakeAll.nil ?_
    intro w9 g9
    have gg9 := (Grew.refl wr).drew.trans g9
    have H9 := Lib.hid (HQ.out.grew gg9)
    have HK9 := Lib.hid (HKr0.out.trans (KeepD.grew gg9))
    have HPI9 := Lib.hid (HPI.out.grew gg9)
    clear g9 gg9 HQ HKr0 HC9 HPI Br HPLr HNEG
    have HB9 : Hid (∀ j, -((0 : Nat) : Int) ≤ s6.op.getD j 0 ∧ s6.op.getD j 0 ≤ 1000000) := fun j => by rw [HS6.out]; have := hop j; simp only; omega
    have HU9 : Hid (s6.U.length ≤ s.U.length + 0) := by unfold Hid; rw [HS6.out]; exact Nat.le_refl _
    have HN9 : Hid (s.U.length + pm ≤ 1000000) := by
     have h1 := HPN.out
     rw [← HNB.out] at h1
     unfold Hid
     rw [h1]; exact hU
    clear hop hU hp2 hn
    go_wp2_with fail
    go_loopw [55] (fun i y => ∃ (k : Nat) (s' : Pg), k ≤ pm ∧ i = .int .i64 k ∧ Hid (DecR s6 ((pl ⟨ld, lw, nb⟩).take k) s') ∧ Hid (PgAt y q (fun j => R j ∨ j = lb) s') ∧ Hid (KeepD (fun j => R j ∨ j = lb) w9 y) ∧ Hid (s'.U.length ≤ s.U.length + k) ∧ Hid (∀ j, -(k : Int) ≤ s'.op.getD j 0 ∧ s'.op.getD j 0 ≤ 1000000)) (fun i _ => pm - (intOf i).toNat)
    case atStart => exact ⟨0, s6, Nat.zero_le _, rfl, DecR.nil _, H9.out, KeepD.refl _, HU9.out, HB9.out⟩
    case round =>
     obtain ⟨k, s', hk, rfl, HD, HQ, HKr, HUr, HBr⟩ := hrel
     obtain ⟨c4, c5, _⟩ := HQ.out.cells
     by_cases hlt : k < pm
     ·have HPIr : Ints wr PB pm pd ((pl ⟨ld, lw, nb⟩).map Int.ofNat) := ⟨HPI9.out.1, KeepD.sl HPI9.out.2 HKr.out (fun b o e hn => .inl (HPR.out b o e hn))⟩
      obtain ⟨b, o, hA, hcc⟩ := HPIr.at_ (by omega)
      obtain ⟨i, hi⟩ : ∃ i, (pl ⟨ld, lw, nb⟩)[k]? = some i := ⟨_, List.getElem?_eq_getElem (by rw [← HPN.out]; exact hlt)⟩
      have p0 : wr.cell? ⟨b, o + k, none⟩ = some (.int .i64 (i : Int)) := hcc k (i : Int) (by rw [List.getElem?_map, hi]; rfl)
      have hiN : i < q.N := HPT.out i (List.mem_of_getElem? hi)
      have hN9 := HQ.out.N
      obtain ⟨x, hx⟩ : ∃ x, s'.op.getD i 0 = x := ⟨_, rfl⟩
      have px := HQ.out.op_at hiN
      rw [hx] at px
      have fO := HQ.out.op.frozenAt i
      have hxb : -(k : Int) ≤ x ∧ x ≤ 1000000 := by rw [← hx]; exact HBr.out i
      have e0 : (0 : Int) ≤ (k : Int) := by omega
      have e1 : (k : Int) < (pm : Int) := by omega
      have e2 : (0 : Int) ≤ (i : Int) := by omega
      have e3 : (i : Int) < (q.N : Int) := by omega
      have t1 : decide ((k : Int) < (pm : Int)) = true := decide_eq_true (by omega)
      have hS := HQ.out.set_op i (x - 1)
      have HQ2 := Lib.hid hS.1
      have HK2 := Lib.hid (HKr.out.trans hS.2)
      have HXX := Lib.hid hx
      obtain ⟨wn, hwn⟩ : ∃ z, z = wr.setCell ⟨q.gO, i, none⟩ (.int .i64 (x - 1)) := ⟨_, rfl⟩
      rw [← hwn] at HQ2 HK2
      have HBn : Hid (∀ j, -((k + 1 : Nat) : Int) ≤ (s'.op.set i (x - 1)).getD j 0 ∧ (s'.op.set i (x - 1)).getD j 0 ≤ 1000000) := by
       have h1 := dec_bound (i := i) HBr.out
       rw [hx] at h1
       exact h1
      have HI := Lib.hid hi
      subst hA
      clear hcc hi HPIr hN9 HQ HKr c5 hS hx HBr
      have m1 : IntKind.i64.wrap (x - 1) = x - 1 := IntWalk.i64_in _ (by omega)
      go_upto_region 13 with (fail)
      rw [← hwn]
      clear hwn px fO p0 c4 m1
      go_wp2_with fail
      refine (examine110 HQ2.out hiN (by have h1 := HUr.out; have h2 := HN9.out; simp only; omega)).mono ?_
      rintro r w4 ⟨s'', rfl, hx, h4, k4⟩
      have H4 := Lib.hid h4
      have HK4 := Lib.hid (HK2.out.trans k4)
      have HD4 : Hid (DecR s6 ((pl ⟨ld, lw, nb⟩).take (k + 1)) s'') := by
       unfold Hid
       rw [List.take_add_one, HI.out, Option.toList]
       exact DecR.snoc HD.out (by rw [HXX.out]; exact hx)
      have HU4 : Hid (s''.U.length ≤ s.U.length + (k + 1)) := by
       have h1 := exam_U hx
       have h2 := HUr.out
       simp only at h1
       unfold Hid
       omega
      have HB4 : Hid (∀ j, -((k + 1 : Nat) : Int) ≤ s''.op.getD j 0 ∧ s''.op.getD j 0 ≤ 1000000) := fun j => by rw [hx.2.2.1]; exact HBn.out j
      clear hx h4 k4 HQ2 HK2 HD HBn HI HXX hxb HUr
      go_wp2_with fail
      go_roundw
      case rel => exact ⟨k + 1, s'', by omega, by go_num, HD4, H4, HK4, HU4, HB4⟩
      case measure => simp [intOf]; omega
     ·obtain rfl : pm = k := by omega
      have t1 : decide ((pm : Int) < (pm : Int)) = false := decide_eq_false (by omega)
      have HA : Hid (AddR pl s ⟨ld, lw, li⟩ s') := by
       have h1 := HD.out
       rw [List.take_of_length_le (by rw [HPN.out]; exact Nat.le_refl _), HS6.out] at h1
       unfold Hid AddR
       rw [if_neg (by rw [HF.out]; decide)]
       have e : (⟨ld, lw, li⟩ : Li).neg = ⟨ld, lw, nb⟩ := by unfold Li.neg; rw [HNB.out]
       rw [e]
       exact h1
      have HKF := Lib.hid (HK9.out.trans (keepB_mono HKr.out (fun _ h => .inl h)))
      clear HD HKr HUr HBr c4 c5 HS6 HNB HF
      go_wp2_with fail
      go_end0
      exact ⟨s', rfl, HA.out, HQ.out.less (fun _ h => .inl h), HKF.out⟩
end Go.Proofs.YtnnbibmmofnkdaaGreat
