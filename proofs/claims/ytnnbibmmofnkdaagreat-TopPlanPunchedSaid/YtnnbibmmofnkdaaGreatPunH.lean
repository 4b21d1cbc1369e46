/-
 Punches: w17Sorted.
-/
import Derived.Test.YtnnbibmmofnkdaaGreatPunG
namespace Go.Proofs.YtnnbibmmofnkdaaGreat
open Go.RowKit Go.Proofs WageMem WageReg WageRec WageSpan WageTop
theorem info47 : (Tryz.prog.info? 47).map (fun i => (i.zero, i.size, i.bytes)) = some (some (.agg #[.int .i64 0, .int .i64 0, .int .i64 0]), 3, 24) := by kernel_rfl
theorem elem25 : Tryz.prog.underlying 25 = some (.slice (Tryz.prog.elem 25)) := by kernel_rfl
theorem size25e (w : World) : (Go.sizeOf (Tryz.prog.elem 25)).run Tryz.prog w = .ok 3 w := by kernel_rfl
/-- What w17Sorted returns. -/
def RetSr (p : Pl) (l : List Int) (wk : Int) (w : World) (e : Ending) (w' : World) : Prop := ∃ A n c L, e = .returned (.slice A n c) ∧ Recs encD 3 w' A n c L ∧ SrtOk p l wk l.length L ∧ Grew w w'
theorem SrtOk.len {p : Pl} {l : List Int} {wk : Int} {k : Nat} {L : List Du} (h : SrtOk p l wk k L) : L.length ≤ k := by
 rw [h.perm.length_eq, List.length_map]
 have := idxF_len 0 (l.take k) wk
 rw [List.length_take] at this
 omega
set_option maxRecDepth 100000 in
set_option maxHeartbeats 8000000 in
theorem sorted28 {w : World} {p : Pl} {A : Option Addr} {n c : Nat} {l : List Int} {wk : Int} (hp : PlanAt w p) (hi : Ints w A n c l) (hn : n = p.dn) (hn24 : n ≤ 24) :
  Calls Tryz.prog 28 #[planV p, .slice A n c, .int .i64 wk] w (RetSr p l wk w) := by
 obtain ⟨i0, hi0, hz0, hz1, hz2⟩ := info_parts info47
 have HP := Lib.hid hp
 have HI := Lib.hid hi
 have HL : Hid (l.length = n) := hi.1
 have HN := Lib.hid hn
 clear hp hi hn
 show Calls Tryz.prog 28 #[.agg #[.string p.nm, .int .i64 p.zb, .slice p.C p.cn p.cc, .slice p.D p.dn p.dc, .slice p.W p.wn p.wc, .int .i64 p.lm.rest, .int .i64 p.lm.week, .int .i64 p.lm.nf, .int .i64 p.lm.nt, .int .i64 p.lm.mn], .slice A n c, .int .i64 wk] w _
 obtain ⟨w1, hw1⟩ : ∃ y, y = w.alloc (.cells #[.string p.nm, .int .i64 p.zb, .slice p.C p.cn p.cc, .slice p.D p.dn p.dc, .slice p.W p.wn p.wc, .int .i64 p.lm.rest, .int .i64 p.lm.week, .int .i64 p.lm.nf, .int .i64 p.lm.nt, .int .i64 p.lm.mn] 32) := ⟨_, rfl⟩
 obtain ⟨tb, htb⟩ : ∃ z, z = w.heap.size := ⟨_, rfl⟩
 have g1 : Grew w w1 := by rw [hw1]; exact (Grew.refl w).alloc _
 have X1 : Hid (Blk w1 tb 32 (planC p)) := by unfold Hid; rw [hw1, htb]; exact Blk.new w 32 (planC p)
 have HG1 := Lib.hid g1
 clear g1
 go_enter Tryz.func28, Tryz.ntmps28
 go_upto_region 1 with (fail)
 rw [← hw1, ← htb]
 clear hw1 htb
 go_wp2_with fail
 go_loopw [7, 8] (fun v i y => ∃ (k m bc : Nat) (B : Option Addr) (L : List Du), k ≤ n ∧ m ≤ k ∧ i = .int .i64 k ∧ v = .slice B m bc ∧ Hid (y.ownsRow w.heap.size 47 3 (.slice B m bc) m (L.flatMap encD)) ∧ Hid (L.length = m) ∧ Hid (SrtOk p l wk k L) ∧ Hid (Grew w1 y)) (fun _ i _ => n - (intOf i).toNat)
 case atStart => exact ⟨0, 0, 0, none, [], Nat.zero_le _, Nat.zero_le _, rfl, rfl, World.ownsRow_nil _ _ _ _, rfl, ⟨List.Perm.nil, List.Pairwise.nil⟩, Grew.refl _⟩
 case round =>
  obtain ⟨k, m, bc, B, L, hk, hmk, rfl, rfl, OW, HLM, HS, HR⟩ := hrel
  have Xr := Lib.hid (X1.out.grew HR.out)
  have v3 : wr.cell? ⟨tb, 3, none⟩ = some (.slice p.D p.dn p.dc) := Xr.out.cell rfl
  by_cases hlt : k < n
  ·obtain ⟨b, o, hA, hcc⟩ := (HI.out.grew (HG1.out.trans HR.out)).at_ (by omega)
   obtain ⟨y, hy⟩ : ∃ y, l[k]? = some y := ⟨_, List.getElem?_eq_getElem (by rw [HL.out]; exact hlt)⟩
   have c0 := hcc k _ hy
   subst hA
   have t1 : decide ((k : Int) < (n : Int)) = true := decide_eq_true (by omega)
   have hkd : k < p.dn := by have := HN.out; omega
   have t2 : decide ((k : Int) < (p.dn : Int)) = true := decide_eq_true (by omega)
   have e1 : (0 : Int) ≤ (k : Int) := by omega
   have e2 : (k : Int) < (n : Int) := by omega
   have e3 : (k : Int) < (p.dn : Int) := by omega
   by_cases hyw : y = wk
   ·have HYW : Hid (l[k]? = some wk) := by unfold Hid; rw [hy, hyw]
    have HRL := Lib.hid (Recs.own HLM.out OW.out)
    obtain ⟨bd, od, z, hD, hz, ⟨d0, d1, d2⟩, hzb⟩ := (HP.out.grew (HG1.out.trans HR.out)).ds.at_ hkd
    have hdu : p.du k = z := du_at hz
    have HDU := Lib.hid hdu
    obtain ⟨za, zb, zs⟩ := z
    simp only at d0 d1 d2 hzb
    have HDC : Hid (wr.cell? ⟨tb, 3, none⟩ = some (.slice p.D p.dn p.dc) ∧ wr.cell? ⟨bd, od + k * 3, none⟩ = some (.int .i64 za) ∧ wr.cell? ⟨bd, od + k * 3 + 1, none⟩ = some (.int .i64 zb) ∧ wr.cell? ⟨bd, od + k * 3 + 2, none⟩ = some (.int .i64 zs)) := ⟨v3, d0, d1, d2⟩
    have HDE := Lib.hid hD
    obtain ⟨wo, hwo⟩ : ∃ z, z = wr := ⟨_, rfl⟩
    subst hwo
    have q1 : (y == wk) = true := beq_iff_eq.2 hyw
    clear d0 d1 d2 hcc hy hz hdu hD hzb
    go_wp2_with fail
    clear c0 v3 q1
    go_loopw [9] (fun at_ y => ∃ j : Nat, j ≤ m ∧ at_ = .int .i64 j ∧ Hid (∀ (i : Nat) x, i < j → L[i]? = some x → x.a < za) ∧ Hid (Grew wo y)) (fun at_ _ => m - (intOf at_).toNat)
    case atStart => exact ⟨0, Nat.zero_le _, rfl, fun i x h => absurd h (Nat.not_lt_zero _), Grew.refl _⟩
    case round =>
     obtain ⟨j, hj, rfl, HJ, HRr⟩ := hrel
     have s0 : (0 : Int) ≤ (j : Int) := by omega
     by_cases hjm : j < m
     ·obtain ⟨bl, ol, x, hBL, hx, hrow⟩ := (HRL.out.grew HRr.out).at_ encD_ok hjm
      have x0 : wr.cell? ⟨bl, ol + j * 3, none⟩ = some (.int .i64 x.a) := hrow 0 _ rfl
      have HX := Lib.hid hx
      obtain ⟨xa, xb, xs⟩ := x
      simp only at x0
      have s1 : decide ((j : Int) < (m : Int)) = true := decide_eq_true (by omega)
      have s2 : (j : Int) < (m : Int) := by omega
      have hC : ∀ w', Grew wr.drew w' → w'.cell? ⟨bl, ol + j * 3, none⟩ = some (.int .i64 xa) ∧ w'.cell? ⟨tb, 3, none⟩ = some (.slice (some ⟨bd, od, none⟩) p.dn p.dc) ∧ w'.cell? ⟨bd, od + k * 3, none⟩ = some (.int .i64 za) := fun w' g' => by
       have gg := (Grew.refl wr).drew.trans g'
       have h1 := HDC.out.1
       rw [HDE.out] at h1
       exact ⟨gg.cell x0, (HRr.out.trans gg).cell h1, (HRr.out.trans gg).cell HDC.out.2.1⟩
      have HC := Lib.hid hC
      subst hBL
      clear hC hx hrow x0
      obtain ⟨bq, hbq⟩ : ∃ t, decide (xa < za) = t := ⟨_, rfl⟩
      have HBQ := Lib.hid hbq
      go_upto_region 7 with (fail)
      refine wp_region_seq (by kernel_rfl) Grew.refl (fun _ _ _ => Grew.trans) (fun _ _ _ _ _ h => h) (by kernel_rfl) ?_
      repeat (first
       | (refine TakeAll.pure (v := ?_) (by rfl) ?_ ?_; rotate_left; (intro w' g'; obtain ⟨q_0, q_1, q_2⟩ := HC.out w' g'; go_simp; first | done | with_reducible rfl); (simp only [Act.put, uzT, uz0, uz1]))
       | (refine TakeAll.skip (by rfl) ?_; (simp only [Act.put, uzT, uz0, uz1])))
      refine TakeAll.nil ?_
      intro wb g1
      have HRb := Lib.hid (HRr.out.trans ((Grew.refl wr).drew.trans g1))
      clear g1 HC HRr hbq
      cases bq with
      | true =>
       have HJ2 : Hid (∀ (i : Nat) x, i < j + 1 → L[i]? = some x → x.a < za) := fun i x hi hx => by
        by_cases hij : i = j
        ·subst hij
         rw [HX.out] at hx
         injection hx with hx
         rw [← hx]
         exact of_decide_eq_true HBQ.out
        ·exact HJ.out i x (by omega) hx
       go_wp2_with fail
       go_roundw
       case rel => exact ⟨j + 1, by omega, by go_num, HJ2.out, HRb.out⟩
       case measure => simp [intOf]; omega
      | false =>
       have HE : Hid (∀ x, L[j]? = some x → (p.du k).a ≤ x.a) := fun x hx => by
        rw [HX.out] at hx
        injection hx with hx
        rw [← hx, HDU.out]
        have := of_decide_eq_false HBQ.out
        show za ≤ xa
        omega
       have HJD : Hid (∀ (i : Nat) x, i < j → L[i]? = some x → x.a < (p.du k).a) := fun i x hi hx => by rw [HDU.out]; exact HJ.out i x hi hx
       have r1 : ∀ x, (Instr.slice 25 (.slice (some ⟨bl, ol, none⟩) m bc) none (some (.int .i64 (j : Int))) none).run Tryz.prog x = .ok (.slice (some ⟨bl, ol, none⟩) j bc) x := fun x => run_slice_head x 25 3 elem25 (size25e x) (some ⟨bl, ol, none⟩) m bc j _ (by have := HRL.out.cap; omega)
       have r2 : ∀ x, (Instr.slice 25 (.slice (some ⟨bl, ol, none⟩) m bc) (some (.int .i64 (j : Int))) none none).run Tryz.prog x = .ok (.slice (tailA (some ⟨bl, ol, none⟩) bc j 3) (m - j) (bc - j)) x := fun x => by have h := run_slice_tail x 25 3 elem25 (size25e x) (some ⟨bl, ol, none⟩) m bc j .i64 (by omega); exact h
       have hcap := HRL.out.cap
       have R1 := Lib.hid ((HRL.out.grew HRb.out).head encD_ok (q := j) (k := bc) (by omega) (by omega) (Nat.le_refl _)).2
       have R3 : Hid (Sl wo 3 (tailA (some ⟨bl, ol, none⟩) bc j 3) (m - j) (bc - j) ((L.drop j).flatMap encD)) := by have h := (HRL.out.tail encD_ok (q := j) (by omega)).2; exact h
       go_upto_region 11 with (at_builtin; refine wpList_append_sl _ rfl (.tmp 50) (.tmp 53) 25 rfl wo.heap.size 47 i0 (.agg #[.int .i64 0, .int .i64 0, .int .i64 0]) 3 24 Tryz.underlying25 hi0 hz0 hz1 hz2 rfl (by decide) (.slice none 0 0) 0 [] rfl (World.ownsRow_nil _ _ _ _) (some ⟨bl, ol, none⟩) j bc _ rfl R1.out (WageRec.flat_one encD_ok _) (by unfold maxLen; omega) (by omega) HRb.out.le ?_; intro v7 w7 own7 hg7 _; obtain ⟨A7, c7, rfl⟩ := own_form own7)
       have H7 := Lib.hid (HRb.out.grown hg7 (fun q hq => by cases hq))
       have OW7 : Hid (w7.ownsRow wo.heap.size 47 3 (.slice A7 j c7) j ((L.take j).flatMap encD)) := by have h := own7; rw [Nat.zero_add, List.nil_append] at h; exact h
       clear own7 hg7 R1 r1
       have u3 : w7.cell? ⟨tb, 3, none⟩ = some (.slice (some ⟨bd, od, none⟩) p.dn p.dc) := by have h1 := HDC.out.1; rw [HDE.out] at h1; exact H7.out.cell h1
       have u0 : w7.cell? ⟨bd, od + k * 3, none⟩ = some (.int .i64 za) := H7.out.cell HDC.out.2.1
       have u1 : w7.cell? ⟨bd, od + k * 3 + 1, none⟩ = some (.int .i64 zb) := H7.out.cell HDC.out.2.2.1
       have u2 : w7.cell? ⟨bd, od + k * 3 + 2, none⟩ = some (.int .i64 zs) := H7.out.cell HDC.out.2.2.2
       have BI : Hid (Sl (w7.alloc (.cells #[.int .i64 za, .int .i64 zb, .int .i64 zs] 47)) 3 (some ⟨w7.heap.size, 0, none⟩) 1 1 ([(⟨za, zb, zs⟩ : Du)].flatMap encD)) := builtS (w := w7) (t := 47) 3 1 #[.int .i64 za, .int .i64 zb, .int .i64 zs] _ rfl rfl (by decide)
       have OW8 := Lib.hid (own_grew OW7.out ((Grew.refl w7).alloc (.cells #[.int .i64 za, .int .i64 zb, .int .i64 zs] 47)))
       have H8 := Lib.hid (H7.out.alloc (.cells #[.int .i64 za, .int .i64 zb, .int .i64 zs] 47))
       go_upto_region 12 with (at_builtin; refine wpList_append_sl _ rfl (.tmp 55) (.tmp 61) 25 rfl wo.heap.size 47 i0 (.agg #[.int .i64 0, .int .i64 0, .int .i64 0]) 3 24 Tryz.underlying25 hi0 hz0 hz1 hz2 rfl (by decide) (.slice A7 j c7) j _ rfl OW8.out (some ⟨w7.heap.size, 0, none⟩) 1 1 _ rfl BI.out (WageRec.flat_one encD_ok _) (by unfold maxLen; omega) (by omega) H8.out.le ?_; intro v9 w9 own9 hg9 _; obtain ⟨A9, c9, rfl⟩ := own_form own9)
       have H9 := Lib.hid (H8.out.grown hg9 (fun q hq => (OW8.out.lt q hq).1))
       have OW9 := Lib.hid own9
       clear own9 hg9 BI OW8 H8 OW7 H7 u0 u1 u2 u3
       have R4 := Lib.hid (R3.out.grew H9.out)
       clear R3
       go_wp2_with (at_builtin; refine wpList_append_sl _ rfl (.tmp 63) (.tmp 66) 25 rfl wo.heap.size 47 i0 (.agg #[.int .i64 0, .int .i64 0, .int .i64 0]) 3 24 Tryz.underlying25 hi0 hz0 hz1 hz2 rfl (by decide) (.slice A9 (j + 1) c9) (j + 1) _ rfl OW9.out (tailA (some ⟨bl, ol, none⟩) bc j 3) (m - j) (bc - j) _ rfl R4.out (WageRec.flat_one encD_ok _) (by unfold maxLen; omega) (by omega) H9.out.le ?_; intro v5 w5 own5 hg5 _; obtain ⟨A5, c5, rfl⟩ := own_form own5)
       have H5 := Lib.hid (HR.out.trans (H9.out.grown hg5 (fun q hq => (OW9.out.lt q hq).1)))
       have hnum : j + 1 + (m - j) = m + 1 := by omega
       have OW5 : Hid (w5.ownsRow w.heap.size 47 3 (.slice A5 (m + 1) c5) (m + 1) ((L.take j ++ p.du k :: L.drop j).flatMap encD)) := by
        unfold Hid
        rw [HDU.out, List.flatMap_append, List.flatMap_cons]
        rw [hnum] at own5
        have e : (L.take j).flatMap encD ++ [(⟨za, zb, zs⟩ : Du)].flatMap encD ++ (L.drop j).flatMap encD = (L.take j).flatMap encD ++ (encD ⟨za, zb, zs⟩ ++ (L.drop j).flatMap encD) := by simp
        rw [e] at own5
        exact own_base own5 (HG1.out.trans HR.out).le
       have HLM5 : Hid ((L.take j ++ p.du k :: L.drop j).length = m + 1) := by unfold Hid; rw [List.length_append, List.length_cons, List.length_take, List.length_drop, HLM.out]; omega
       have HS5 := Lib.hid (HS.out.put HYW.out (j := j) HJD.out HE.out)
       clear own5 hg5 OW9 H9 R4 r2
       go_wp2_with fail
       go_roundw
       case rel => exact ⟨k + 1, m + 1, c5, A5, L.take j ++ p.du k :: L.drop j, by omega, by omega, by go_num, by rw [hnum], OW5.out, HLM5.out, HS5.out, H5.out⟩
       case measure => simp [intOf]; omega
     ·obtain rfl : m = j := by omega
      have s1 : decide ((m : Int) < (m : Int)) = false := decide_eq_false (by omega)
      have HE : Hid (∀ x, L[m]? = some x → (p.du k).a ≤ x.a) := fun x hx => by
       have := (List.getElem?_eq_some_iff.1 hx).1
       rw [HLM.out] at this
       omega
      go_upto_region 7 with (fail)
      refine wp_region_seq (by kernel_rfl) Grew.refl (fun _ _ _ => Grew.trans) (fun _ _ _ _ _ h => h) (by kernel_rfl) ?_
      repeat (first
       | (refine TakeAll.pure (v := ?_) (by rfl) ?_ ?_; rotate_left; (intro w' g'; go_simp; first | done | with_reducible rfl); (simp only [Act.put, uzT, uz0, uz1]))
       | (refine TakeAll.skip (by rfl) ?_; (simp only [Act.put, uzT, uz0, uz1])))
      refine TakeAll.nil ?_
      intro wb g1
      have HRb := Lib.hid (HRr.out.trans ((Grew.refl wr).drew.trans g1))
      clear g1 HRr
      have HJD : Hid (∀ (i : Nat) x, i < m → L[i]? = some x → x.a < (p.du k).a) := fun i x hi hx => by rw [HDU.out]; exact HJ.out i x hi hx
      have r1 : ∀ x, (Instr.slice 25 (.slice B m bc) none (some (.int .i64 (m : Int))) none).run Tryz.prog x = .ok (.slice B m bc) x := fun x => run_slice_head x 25 3 elem25 (size25e x) B m bc m _ (by have := HRL.out.cap; omega)
      have r2 : ∀ x, (Instr.slice 25 (.slice B m bc) (some (.int .i64 (m : Int))) none none).run Tryz.prog x = .ok (.slice (tailA B bc m 3) 0 (bc - m)) x := fun x => by have h := run_slice_tail x 25 3 elem25 (size25e x) B m bc m .i64 (by omega); rw [Nat.sub_self] at h; exact h
      have hcap := HRL.out.cap
      have R1 := Lib.hid ((HRL.out.grew HRb.out).head encD_ok (q := m) (k := bc) (by omega) (by omega) (Nat.le_refl _)).2
      have R3 : Hid (Sl wo 3 (tailA B bc m 3) 0 (bc - m) ((L.drop m).flatMap encD)) := by have h := (HRL.out.tail encD_ok (q := m) (by omega)).2; rw [Nat.sub_self] at h; exact h
      go_upto_region 11 with (at_builtin; refine wpList_append_sl _ rfl (.tmp 50) (.tmp 53) 25 rfl wo.heap.size 47 i0 (.agg #[.int .i64 0, .int .i64 0, .int .i64 0]) 3 24 Tryz.underlying25 hi0 hz0 hz1 hz2 rfl (by decide) (.slice none 0 0) 0 [] rfl (World.ownsRow_nil _ _ _ _) B m bc _ rfl R1.out (WageRec.flat_one encD_ok _) (by unfold maxLen; omega) (by omega) HRb.out.le ?_; intro v7 w7 own7 hg7 _; obtain ⟨A7, c7, rfl⟩ := own_form own7)
      have H7 := Lib.hid (HRb.out.grown hg7 (fun q hq => by cases hq))
      have OW7 : Hid (w7.ownsRow wo.heap.size 47 3 (.slice A7 m c7) m ((L.take m).flatMap encD)) := by have h := own7; rw [Nat.zero_add, List.nil_append] at h; exact h
      clear own7 hg7 R1 r1
      have u3 : w7.cell? ⟨tb, 3, none⟩ = some (.slice (some ⟨bd, od, none⟩) p.dn p.dc) := by have h1 := HDC.out.1; rw [HDE.out] at h1; exact H7.out.cell h1
      have u0 : w7.cell? ⟨bd, od + k * 3, none⟩ = some (.int .i64 za) := H7.out.cell HDC.out.2.1
      have u1 : w7.cell? ⟨bd, od + k * 3 + 1, none⟩ = some (.int .i64 zb) := H7.out.cell HDC.out.2.2.1
      have u2 : w7.cell? ⟨bd, od + k * 3 + 2, none⟩ = some (.int .i64 zs) := H7.out.cell HDC.out.2.2.2
      have BI : Hid (Sl (w7.alloc (.cells #[.int .i64 za, .int .i64 zb, .int .i64 zs] 47)) 3 (some ⟨w7.heap.size, 0, none⟩) 1 1 ([(⟨za, zb, zs⟩ : Du)].flatMap encD)) := builtS (w := w7) (t := 47) 3 1 #[.int .i64 za, .int .i64 zb, .int .i64 zs] _ rfl rfl (by decide)
      have OW8 := Lib.hid (own_grew OW7.out ((Grew.refl w7).alloc (.cells #[.int .i64 za, .int .i64 zb, .int .i64 zs] 47)))
      have H8 := Lib.hid (H7.out.alloc (.cells #[.int .i64 za, .int .i64 zb, .int .i64 zs] 47))
      go_upto_region 12 with (at_builtin; refine wpList_append_sl _ rfl (.tmp 55) (.tmp 61) 25 rfl wo.heap.size 47 i0 (.agg #[.int .i64 0, .int .i64 0, .int .i64 0]) 3 24 Tryz.underlying25 hi0 hz0 hz1 hz2 rfl (by decide) (.slice A7 m c7) m _ rfl OW8.out (some ⟨w7.heap.size, 0, none⟩) 1 1 _ rfl BI.out (WageRec.flat_one encD_ok _) (by unfold maxLen; omega) (by omega) H8.out.le ?_; intro v9 w9 own9 hg9 _; obtain ⟨A9, c9, rfl⟩ := own_form own9)
      have H9 := Lib.hid (H8.out.grown hg9 (fun q hq => (OW8.out.lt q hq).1))
      have OW9 := Lib.hid own9
      clear own9 hg9 BI OW8 H8 OW7 H7 u0 u1 u2 u3
      have R4 := Lib.hid (R3.out.grew H9.out)
      clear R3
      go_wp2_with (at_builtin; refine wpList_append_sl _ rfl (.tmp 63) (.tmp 66) 25 rfl wo.heap.size 47 i0 (.agg #[.int .i64 0, .int .i64 0, .int .i64 0]) 3 24 Tryz.underlying25 hi0 hz0 hz1 hz2 rfl (by decide) (.slice A9 (m + 1) c9) (m + 1) _ rfl OW9.out (tailA B bc m 3) 0 (bc - m) _ rfl R4.out (WageRec.flat_one encD_ok _) (by unfold maxLen; omega) (by omega) H9.out.le ?_; intro v5 w5 own5 hg5 _; obtain ⟨A5, c5, rfl⟩ := own_form own5)
      have H5 := Lib.hid (HR.out.trans (H9.out.grown hg5 (fun q hq => (OW9.out.lt q hq).1)))
      have hnum : m + 1 + 0 = m + 1 := by omega
      have OW5 : Hid (w5.ownsRow w.heap.size 47 3 (.slice A5 (m + 1) c5) (m + 1) ((L.take m ++ p.du k :: L.drop m).flatMap encD)) := by
       unfold Hid
       rw [HDU.out, List.flatMap_append, List.flatMap_cons]
       rw [hnum] at own5
       have e : (L.take m).flatMap encD ++ [(⟨za, zb, zs⟩ : Du)].flatMap encD ++ (L.drop m).flatMap encD = (L.take m).flatMap encD ++ (encD ⟨za, zb, zs⟩ ++ (L.drop m).flatMap encD) := by simp
       rw [e] at own5
       exact own_base own5 (HG1.out.trans HR.out).le
      have HLM5 : Hid ((L.take m ++ p.du k :: L.drop m).length = m + 1) := by unfold Hid; rw [List.length_append, List.length_cons, List.length_take, List.length_drop, HLM.out]; omega
      have HS5 := Lib.hid (HS.out.put HYW.out (j := m) HJD.out HE.out)
      clear own5 hg5 OW9 H9 R4 r2
      go_wp2_with fail
      go_roundw
      case rel => exact ⟨k + 1, m + 1, c5, A5, L.take m ++ p.du k :: L.drop m, by omega, by omega, by go_num, by rw [hnum], OW5.out, HLM5.out, HS5.out, H5.out⟩
      case measure => simp [intOf]; omega
   ·have q1 : (y == wk) = false := beq_eq_false_iff_ne.2 hyw
    have HS2 := Lib.hid (HS.out.skip hy hyw)
    clear hcc hy HS Xr
    go_wp2_with fail
    go_roundw
    case rel => exact ⟨k + 1, m, bc, B, L, by omega, by omega, by go_num, rfl, OW.out, HLM.out, HS2.out, HR.out⟩
    case measure => simp [intOf]; omega
  ·obtain rfl : n = k := by omega
   have t1 : decide ((n : Int) < (n : Int)) = false := decide_eq_false (by omega)
   go_wp2
   go_ret
   exact ⟨B, m, bc, L, rfl, Recs.own HLM.out OW.out, by rw [HL.out]; exact HS.out, HG1.out.trans HR.out⟩
end Go.Proofs.YtnnbibmmofnkdaaGreat
