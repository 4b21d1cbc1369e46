/-
 Unit, walked.
-/
import Derived.Test.YtnnbibmmofnkdaaGreatPrpG
import Derived.WalkMore
import Derived.Deep.LoopGhost
namespace Go.Proofs.YtnnbibmmofnkdaaGreat
open Go.RowKit Go.Proofs WageMem WageReg WageRec WageSpan WageTop
open WageMap
theorem empty69 (x : World) : (Instr.buildSlice 69 0 #[]).run Tryz.prog x = .ok (.slice (some ⟨x.heap.size, 0, none⟩) 0 0) (x.alloc (.cells #[] 122)) := by kernel_rfl
theorem eqnil69 (W : World) (b o n c : Nat) : (binOp .eql 69 (.slice (some ⟨b, o, none⟩) n c) (.slice none 0 0)).run Tryz.prog W = .ok (.bool false) W := by kernel_rfl
theorem eqnil69n (W : World) : (binOp .eql 69 (.slice none 0 0) (.slice none 0 0)).run Tryz.prog W = .ok (.bool true) W := by kernel_rfl
set_option maxRecDepth 100000 in
theorem clone62 {w : World} {base : Nat} {A : Option Addr} {n c : Nat} {ls : List Li} (h : w.ownsRow base 122 3 (.slice A n c) n (ls.flatMap encL)) (hn : n ≤ 1000000) :
  Calls Tryz.prog 62 #[.slice A n c] w fun r w' => (∃ v, r = .returned v) ∧ Grew w w' := by
 obtain ⟨i1, hi1, hy0, hy1, hy2⟩ := info_parts info122
 have HI := Lib.hid h
 rcases h.2 with ⟨e1, e2⟩ | ⟨g, cap, cur, e, _⟩
 ·injection e1 with e1 e3 e4
  subst e1 e3 e4
  have hN := fun W => eqnil69n W
  clear h
  go_enter Tryz.func62, Tryz.ntmps62
  go_wp2
  go_ret
  exact ⟨⟨_, rfl⟩, Grew.refl _⟩
 ·injection e with e1 e3 e4
  subst e1 e4
  clear h e3
  obtain ⟨w1, hw1⟩ : ∃ y, y = w.alloc (.cells #[] 122) := ⟨_, rfl⟩
  have g1 : Grew w w1 := by rw [hw1]; exact (Grew.refl w).alloc _
  have OE : Hid (w1.ownsRow w.heap.size 122 3 (.slice (some ⟨w.heap.size, 0, none⟩) 0 0) 0 []) := by unfold Hid; rw [hw1]; exact World.ownsRow_lit (base := w.heap.size) (e := 122) (size := 3) w #[] 0 (Nat.le_refl _) (by decide) rfl
  have hE := fun x => empty69 x
  have hN := fun W => eqnil69 W g 0 n c
  go_enter Tryz.func62, Tryz.ntmps62
  go_wp2_with (at_builtin; rw [← hw1]; refine wpList_append_sl _ rfl (.tmp 5) (.tmp 6) 69 rfl w.heap.size 122 i1 (.agg #[.int .i64 0, .int .i64 0, .bool false]) 3 24 Tryz.underlying69 hi1 hy0 hy1 hy2 rfl (by decide) (.slice (some ⟨w.heap.size, 0, none⟩) 0 0) 0 _ rfl OE.out (some ⟨g, 0, none⟩) n c _ rfl (Sl.own (own_grew HI.out g1)) (WageRec.flat_one encL_ok _) (by unfold maxLen; omega) (by omega) g1.le ?_; intro v7 w7 own7 hg7 hat7)
  go_ret
  exact ⟨⟨_, rfl⟩, g1.grown hg7 (fun j hj => (OE.out.lt j hj).1)⟩
/-- What Unit returns. -/
def RetUn (cls : List (List Li)) (w : World) (e : Ending) (w' : World) : Prop := ∃ v at_, e = .returned (.tuple #[v, .int .i64 at_]) ∧ UnitR cls at_ ∧ Grew w w'
/-- The list, as it lies. -/
theorem PgAt.lst_at {w : World} {q : Pp} {R : Nat → Prop} {s : Pg} (h : PgAt w q R s) : ∃ LA lc, w.cell? ⟨q.b, 0, none⟩ = some (.slice LA s.lst.length lc) ∧ w.ownsRow q.base 122 3 (.slice LA s.lst.length lc) s.lst.length (s.lst.flatMap encL) := by
 obtain ⟨LA, lc, UA, un, uc, m, HP, HLo, _⟩ := h.ex
 exact ⟨LA, lc, HP.hd.cell rfl, HLo⟩
theorem decR_lst {s s' : Pg} {r : List Nat} (h : DecR s r s') : s'.lst = s.lst := by
 induction h with
 | nil => rfl
 | snoc h1 h2 ih => rw [h2.1]; exact ih
theorem AddR.lst {pl : Li → List Nat} {s s' : Pg} {l : Li} (h : AddR pl s l s') : s'.lst = s.lst ++ [l] := by
 unfold AddR at h
 split at h
 ·rw [h]
 ·exact decR_lst h
/-- What holds of a propagation between two literals. -/
structure UnAt (w0 : World) (cls dl : List (List Li)) (pl : Li → List Nat) (q : Pp) (R : Nat → Prop) (N : Nat) (k : Nat) (y : World) (s : Pg) : Prop where
 pg : PgAt y q R s
 pl : PlcAt y q R pl
 cl : ClAt y q R dl
 inv : PInv dl (fun _ => False) s
 sat : ∀ a, (∀ c ∈ cls, satC a c) → ∀ m ∈ s.T, WageTop.satL a m
 ms : meas s ≤ k
 ln : s.lst.length + k ≤ N
 g : Grew w0 y
theorem opn_le (T c : List Li) : opn T c ≤ c.length := by unfold opn; exact List.length_filter_le _ _
theorem PInv.op_le {dl : List (List Li)} {ex : Nat → Prop} {s : Pg} (h : PInv dl ex s) (hl : ∀ i, (dl.getD i []).length ≤ 1000) (i : Nat) : 0 ≤ s.op.getD i 0 ∧ s.op.getD i 0 ≤ 1000000 := by
 by_cases hi : i < dl.length
 ·rw [h.op i hi]
  have h1 := opn_le s.T (dl.getD i [])
  have h2 := hl i
  omega
 ·rw [List.getD_eq_getElem?_getD, List.getElem?_eq_none (by rw [h.ol]; omega)]
  decide
set_option maxRecDepth 100000 in
set_option maxHeartbeats 16000000 in
theorem unit27 {w : World} {CA : Option Addr} {N cc : Nat} {cls : List (List Li)} (h : ClsAt w CA N cls) (hN : N ≤ 20000) :
  Calls Tryz.prog 27 #[.slice CA N cc, .slice none 0 0] w (RetUn cls w) := by
 have HC0 := Lib.hid h
 clear h
 go_enter Tryz.func27, Tryz.ntmps27
 go_wp2_with fail
 refine (newP59 (cc := cc) HC0.out hN).mono ?_
 rintro r w1 ⟨q, R, s0, pl, dl, rfl, hpg, hpl, hcl, hsta, hded, hinv, hT, hl0, hms, hpn, hdn, hop0, hr0, hg⟩
 have HSTA := Lib.hid hsta
 have HDED := Lib.hid hded
 have HR0 := Lib.hid hr0
 have HPN := Lib.hid hpn
 have HDN := Lib.hid hdn
 have HQN : Hid (q.N = N) := by unfold Hid; rw [← hdn, hded.1]; exact HC0.out.1
 have HDL : Hid (∀ i, (dl.getD i []).length ≤ 1000) := fun i => by
  by_cases hi : i < dl.length
  ·have h1 := hinv.op i hi
   rw [hT, opn_nil] at h1
   have h2 := hop0 i
   omega
  ·rw [List.getD_eq_getElem?_getD, List.getElem?_eq_none (by omega)]
   exact Nat.zero_le _
 have HUA : Hid (UnAt w cls dl pl q R N N w1 s0) := ⟨hpg, hpl, hcl, hinv, fun a _ m hm => (by rw [hT] at hm; cases hm), (by rw [← HQN.out]; exact hms), (by rw [hl0]; exact Nat.le_of_eq (Nat.zero_add N)), hg⟩
 clear hpg hpl hcl hsta hded hinv hT hl0 hms hpn hdn hop0 hr0 hg
 go_wp2_with fail
 go_loopw [15] (fun i y => i = .int .i64 0 ∧ y = w1) (fun _ _ => 0)
 case atStart => exact ⟨rfl, rfl⟩
 case round =>
  obtain ⟨rfl, rfl⟩ := hrel
  go_wp2_with fail
  go_loopg [] N (fun k y => Hid (∃ s, UnAt w cls dl pl q R N k y s))
  case atStart => exact ⟨s0, HUA.out⟩
  case round =>
   clear HUA
   obtain ⟨s, hua⟩ := hrel.out
   have HU := Lib.hid hua
   clear hrel
   have c6 := hua.pg.cells.2.2.1
   by_cases hf : s.fa < 0
   ·have t1 : decide (s.fa < 0) = true := decide_eq_true hf
    have hfa := hf
    have HF := Lib.hid hfa
    clear hua hf hfa
    go_wp2_with fail
    refine (next61 HU.out.pg HU.out.cl (fun x hx => by
     obtain ⟨i, e, hi, _⟩ := HU.out.inv.U x hx
     exact ⟨i, e, by rw [← HDN.out]; exact hi⟩) (by
     have h1 := HU.out.ms
     have h2 := HU.out.ln
     unfold meas at h1
     omega)).mono ?_
    rintro r w2 ⟨ro, l, s1, rfl, hro, hnx, hp1, hk1⟩
    have HP1 := Lib.hid hp1
    have HK1 := Lib.hid hk1
    have HNX := Lib.hid hnx
    have HS1 : Hid (s1.lst = s.lst ∧ s1.fa = s.fa ∧ s1.T = s.T) := by
     obtain ⟨ps, U1, _, h2, _⟩ := hnx
     rw [h2]
     exact ⟨rfl, rfl, rfl⟩
    obtain ⟨ld, lw, li⟩ := l
    obtain ⟨wa, hwa⟩ : ∃ y, y = w2.alloc (.cells #[.int .i64 ld, .int .i64 lw, .bool li] 122) := ⟨_, rfl⟩
    obtain ⟨ba, hba⟩ : ∃ z, z = w2.heap.size := ⟨_, rfl⟩
    have ga : Grew w2 wa := by rw [hwa]; exact (Grew.refl w2).alloc _
    have HBA : Hid (Blk wa ba 122 [.int .i64 ld, .int .i64 lw, .bool li]) := by unfold Hid; rw [hwa, hba]; exact Blk.new w2 122 _
    have HPA := Lib.hid (hp1.grew ga)
    have HGA : Hid (Grew w wa) := (((KeepD.grew (G := fun j => j < w.heap.size) HU.out.g).trans (keepB_mono hk1 (fun j hj => HR0.out j hj))).all (fun j hj => hj)).trans ga
    have HPLA := Lib.hid ((HU.out.pl.keep hk1).keep (KeepD.grew ga))
    have HCLA := Lib.hid ((HU.out.cl.keep hk1).keep (KeepD.grew ga))
    clear hnx hp1 hk1 ga c6 t1
    cases ro with
    | none =>
     have HPG : Hid (PgAt wa q R s1) := HPA.out
     have HUN : Hid (UnitR cls s1.fa) := by
      have h1 := HU.out.inv.done HSTA.out HDED.out HU.out.sat (.inr HNX.out)
      unfold Hid
      rw [HS1.out.2.1]; exact h1
     have HLN : Hid (s1.lst.length ≤ 20000) := by have := HU.out.ln; unfold Hid; rw [HS1.out.1]; omega
     have HGG : Hid (Grew w wa) := HGA.out
     clear HPA HGA HPLA HCLA HBA hro
     go_upto_region 9 with (fail)
     rw [← hwa, ← hba]
     clear hwa hba
     obtain ⟨LA, lc, cL, oL⟩ := HPG.out.lst_at
     have HOL := Lib.hid oL
     have cF := HPG.out.cells.2.2.1
     obtain ⟨ln, hln⟩ : ∃ z, s1.lst.length = z := ⟨_, rfl⟩
     rw [hln] at cL HOL
     obtain ⟨fa, hfa⟩ : ∃ z, s1.fa = z := ⟨_, rfl⟩
     rw [hfa] at cF
     have HUR : Hid (UnitR cls fa) := by rw [← hfa]; exact HUN.out
     have hln9 : ln ≤ 1000000 := by rw [← hln]; have := HLN.out; omega
     clear oL hln hfa HUN HLN
     go_upto_region 11 with (fail)
     refine wp_region_H (by kernel_rfl) (fun w' => w'.cell? ⟨q.b, 0, none⟩ = some (.slice LA ln lc) ∧ w'.cell? ⟨q.b, 6, none⟩ = some (.int .i64 fa)) ?_
     refine wpAnyH_takes (fun _ _ _ _ _ h => h) (show wa.drew.cell? ⟨q.b, 0, none⟩ = some (.slice LA ln lc) ∧ wa.drew.cell? ⟨q.b, 6, none⟩ = some (.int .i64 fa) from ⟨((Grew.refl wa).drew).cell cL, ((Grew.refl wa).drew).cell cF⟩) [0, 1, 2, 3, 5, 6, 7, 8] (fuel' := 3) (by kernel_rfl) (by kernel_rfl) (by simp only [pickOps, ugT, ug0, ug1]; rfl) ?_
     repeat (first
      | (refine TakeP.pure (v := ?_) (by rfl) ?_ ?_; rotate_left; (intro w' g'; obtain ⟨q_0, q_1⟩ := g'; go_simp; first | done | with_reducible rfl); (simp only [Act.put, uzT, uz0, uz1]))
      | (refine TakeP.skip (by rfl) ?_; (simp only [Act.put, uzT, uz0, uz1])))
     refine TakeP.nil ?_
     refine wpAnyH_step (i := 4) (by decide +kernel) (fuel' := 2) (by kernel_rfl) (by simp only [pickOps, ugT, ug0, ug1]; rfl) (by rfl) ?_
     intro K hK
     refine wp_call 62 _ (by go_simp; first | done | rfl) ?_
     refine (clone62 (own_grew HOL.out (Grew.refl wa).drew) hln9).mono ?_
     rintro r wz ⟨⟨v, rfl⟩, gz⟩
     refine ⟨v, rfl, ?_⟩
     have gE := (Grew.refl wa).drew.trans gz
     refine hK _ _ ⟨gE.cell cL, gE.cell cF⟩ ?_
     clear hK K
     try (simp only [Act.put, uzT, uz0, uz1])
     refine wpAnyH_takes (fun _ _ _ _ _ h => h) (show wz.cell? ⟨q.b, 0, none⟩ = some (.slice LA ln lc) ∧ wz.cell? ⟨q.b, 6, none⟩ = some (.int .i64 fa) from ⟨gE.cell cL, gE.cell cF⟩) [9, 10] (fuel' := 0) (by kernel_rfl) (by kernel_rfl) (by simp only [pickOps, ugT, ug0, ug1]; rfl) ?_
     repeat (first
      | (refine TakeP.pure (v := ?_) (by rfl) ?_ ?_; rotate_left; (intro w' g'; go_simp; first | done | with_reducible rfl); (simp only [Act.put, uzT, uz0, uz1]))
      | (refine TakeP.skip (by rfl) ?_; (simp only [Act.put, uzT, uz0, uz1])))
     refine TakeP.nil ?_
     refine wpAnyH_done (by decide +kernel) ?_ _
     try (simp only [Act.put, uzT, uz0, uz1])
     have HGE := Lib.hid (HGG.out.trans gE)
     clear cL cF gE gz HOL
     go_wp2
     go_ret2
     exact ⟨v, fa, rfl, HUR.out, HGE.out⟩
    | some x =>
     obtain rfl := hro x rfl
     obtain ⟨i, hi1, hil, hli, hT1, hnc, hmm, hss⟩ := HU.out.inv.next_some HNX.out
     have HI1 := Lib.hid hi1
     have HMM := Lib.hid hmm
     have HSS := Lib.hid hss
     have HLI := Lib.hid hli
     have HNC := Lib.hid hnc
     have HIL := Lib.hid hil
     clear hro hi1 hil hli hT1 hnc hmm hss
     go_upto_region 9 with (fail)
     rw [← hwa, ← hba]
     clear hwa hba
     have u0 : wa.cell? ⟨ba, 0, none⟩ = some (.int .i64 ld) := HBA.out.cell rfl
     have u1 : wa.cell? ⟨ba, 1, none⟩ = some (.int .i64 lw) := HBA.out.cell rfl
     have u2 : wa.cell? ⟨ba, 2, none⟩ = some (.bool li) := HBA.out.cell rfl
     go_wp2_with fail
     refine (add60 HPA.out HPLA.out ⟨ld, lw, li⟩ (by
      have h1 := HU.out.ln
      rw [HS1.out.1]
      omega) (by
      have h1 := HU.out.ln
      have h2 := HU.out.ms
      have h3 := HMM.out
      have h4 := HPN.out (⟨ld, lw, li⟩ : Li).neg
      have h5 := HQN.out
      unfold meas at h3 h2
      omega) (fun x => by
      have h4 := HPN.out x
      have h5 := HQN.out
      omega) (fun j => HI1.out.op_le HDL.out j)).mono ?_
     rintro r w3 ⟨s2, rfl, hadd, hp2, hk2⟩
     have HNU : Hid (UnAt w cls dl pl q R N (gk - 1) w3 s2) := by
      obtain ⟨inv2, hT2, hm2⟩ := HI1.out.add HSTA.out HNC.out hadd (fun j e => e ▸ HLI.out)
      have h1 := HU.out.ln
      have h2 := HU.out.ms
      have h3 := HMM.out
      refine ⟨hp2, HPLA.out.keep hk2, HCLA.out.keep hk2, inv2, fun a ha m hm => ?_, by omega, ?_, (((KeepD.grew (G := fun j => j < w.heap.size) HGA.out).trans (keepB_mono hk2 (fun j hj => HR0.out j hj))).all (fun j hj => hj))⟩
      ·rw [hT2] at hm
       rcases List.mem_cons.1 hm with rfl | hm
       ·refine HSS.out a (HU.out.sat a ha) ?_
        have hic : i < cls.length := by rw [← HDED.out.1]; exact HIL.out
        obtain ⟨m, hm1, hm2⟩ := ha (cls.getD i []) (by rw [List.getD_eq_getElem?_getD, List.getElem?_eq_getElem hic]; exact List.getElem_mem hic)
        exact ⟨m, (HDED.out.2 i m).2 hm1, hm2⟩
       ·rw [HS1.out.2.2] at hm
        exact HU.out.sat a ha m hm
      ·rw [hadd.lst, List.length_append, HS1.out.1, List.length_singleton]
       omega
     have hgk : 0 < gk := by
      have h2 := HU.out.ms
      have h3 := HMM.out
      omega
     clear hadd hp2 hk2 u0 u1 u2 HPA HGA HPLA HCLA HBA
     go_wp2_with fail
     go_roundg (gk - 1)
     case measure => omega
     case rel => exact ⟨s2, HNU.out⟩
   ·have t1 : decide (s.fa < 0) = false := decide_eq_false hf
    have HPG : Hid (PgAt wr q R s) := hua.pg
    have HUN : Hid (UnitR cls s.fa) := hua.inv.done (s1 := s) HSTA.out HDED.out hua.sat (.inl (by omega))
    have HLN : Hid (s.lst.length ≤ 20000) := by have := hua.ln; unfold Hid; omega
    have HGG : Hid (Grew w wr) := hua.g
    clear hua hf HU
    obtain ⟨LA, lc, cL, oL⟩ := HPG.out.lst_at
    have HOL := Lib.hid oL
    have cF := HPG.out.cells.2.2.1
    obtain ⟨ln, hln⟩ : ∃ z, s.lst.length = z := ⟨_, rfl⟩
    rw [hln] at cL HOL
    obtain ⟨fa, hfa⟩ : ∃ z, s.fa = z := ⟨_, rfl⟩
    rw [hfa] at cF
    have HUR : Hid (UnitR cls fa) := by rw [← hfa]; exact HUN.out
    have hln9 : ln ≤ 1000000 := by rw [← hln]; have := HLN.out; omega
    clear oL hln hfa HUN HLN
    go_upto_region 11 with (fail)
    refine wp_region_H (by kernel_rfl) (fun w' => w'.cell? ⟨q.b, 0, none⟩ = some (.slice LA ln lc) ∧ w'.cell? ⟨q.b, 6, none⟩ = some (.int .i64 fa)) ?_
    refine wpAnyH_takes (fun _ _ _ _ _ h => h) (show wr.drew.cell? ⟨q.b, 0, none⟩ = some (.slice LA ln lc) ∧ wr.drew.cell? ⟨q.b, 6, none⟩ = some (.int .i64 fa) from ⟨((Grew.refl wr).drew).cell cL, ((Grew.refl wr).drew).cell cF⟩) [0, 1, 2, 3, 5, 6, 7, 8] (fuel' := 3) (by kernel_rfl) (by kernel_rfl) (by simp only [pickOps, ugT, ug0, ug1]; rfl) ?_
    repeat (first
     | (refine TakeP.pure (v := ?_) (by rfl) ?_ ?_; rotate_left; (intro w' g'; obtain ⟨q_0, q_1⟩ := g'; go_simp; first | done | with_reducible rfl); (simp only [Act.put, uzT, uz0, uz1]))
     | (refine TakeP.skip (by rfl) ?_; (simp only [Act.put, uzT, uz0, uz1])))
    refine TakeP.nil ?_
    refine wpAnyH_step (i := 4) (by decide +kernel) (fuel' := 2) (by kernel_rfl) (by simp only [pickOps, ugT, ug0, ug1]; rfl) (by rfl) ?_
    intro K hK
    refine wp_call 62 _ (by go_simp; first | done | rfl) ?_
    refine (clone62 (own_grew HOL.out (Grew.refl wr).drew) hln9).mono ?_
    rintro r wz ⟨⟨v, rfl⟩, gz⟩
    refine ⟨v, rfl, ?_⟩
    have gE := (Grew.refl wr).drew.trans gz
    refine hK _ _ ⟨gE.cell cL, gE.cell cF⟩ ?_
    clear hK K
    try (simp only [Act.put, uzT, uz0, uz1])
    refine wpAnyH_takes (fun _ _ _ _ _ h => h) (show wz.cell? ⟨q.b, 0, none⟩ = some (.slice LA ln lc) ∧ wz.cell? ⟨q.b, 6, none⟩ = some (.int .i64 fa) from ⟨gE.cell cL, gE.cell cF⟩) [9, 10] (fuel' := 0) (by kernel_rfl) (by kernel_rfl) (by simp only [pickOps, ugT, ug0, ug1]; rfl) ?_
    repeat (first
     | (refine TakeP.pure (v := ?_) (by rfl) ?_ ?_; rotate_left; (intro w' g'; go_simp; first | done | with_reducible rfl); (simp only [Act.put, uzT, uz0, uz1]))
     | (refine TakeP.skip (by rfl) ?_; (simp only [Act.put, uzT, uz0, uz1])))
    refine TakeP.nil ?_
    refine wpAnyH_done (by decide +kernel) ?_ _
    try (simp only [Act.put, uzT, uz0, uz1])
    have HGE := Lib.hid (HGG.out.trans gE)
    clear cL cF gE gz HOL
    go_wp2
    go_ret2
    exact ⟨v, fa, rfl, HUR.out, HGE.out⟩
end Go.Proofs.YtnnbibmmofnkdaaGreat
