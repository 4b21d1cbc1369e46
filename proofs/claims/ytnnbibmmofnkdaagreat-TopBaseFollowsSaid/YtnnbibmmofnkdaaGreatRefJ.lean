/-
 Refutations: bad, cost.
-/
import Derived.Test.YtnnbibmmofnkdaaGreatRefI
namespace Go.Proofs.YtnnbibmmofnkdaaGreat
open Go.RowKit Go.Proofs WageMem WageReg WageRec WageSpan WageTop
theorem deny_lt {n : Int} : ∀ {c : List Li} {r out : List Int}, (∀ l ∈ c, l.w < n) → (∀ x ∈ r, x < n) → deny r c = some out → ∀ x ∈ out, x < n
 | [], r, out, _, hr, h => by injection h with h; rw [← h]; exact hr
 | l :: c, r, out, hp, hr, h => by
  unfold deny at h
  split at h
  ·refine deny_lt (fun x hx => hp x (List.mem_cons_of_mem _ hx)) (fun x hx => ?_) h
   rcases List.mem_or_eq_of_mem_set hx with h1 | h1
   ·exact hr x h1
   ·rw [h1]; exact hp l List.mem_cons_self
  ·cases h
theorem denied_lt {E : Env} {s : Stp} {out : List Int} (hp : s.cl.all (proper E) = true) (h : denied E s = some out) : ∀ x ∈ out, x < (E.nW : Int) := by
 unfold denied at h
 split at h
 ·refine deny_lt (fun l hl => (of_decide_eq_true (List.all_eq_true.1 hp l hl)).2.2.2) (fun x hx => ?_) h
  rw [List.eq_of_mem_replicate hx]; omega
 ·cases h
theorem judge_true {e : Ending} (h : e = .returned (.tuple #[])) : Judge true e := h
theorem judge_false {e : Ending} (h : e = .panicked failC) : Judge false e := h
set_option maxRecDepth 100000 in
set_option maxHeartbeats 8000000 in
theorem bad93 {w : World} {cb : Nat} {p : Pl} {M N : Pc} {ps : List Pc} {q : Qs} {s : Stp} (h : RpAt w cb p M N ps) (hs : StRd w q s) (hp : s.cl.all (proper (envP p)) = true) :
  Calls Tryz.prog 93 #[.pointer (some ⟨cb, 0, none⟩), .agg #[pcV q.cl, .int .i64 q.ru, pcV q.fr]] w fun e w' => Judge (badB (envP p) s) e ∧ Grew w w' := by
 obtain ⟨⟨CA, cn, cc⟩, ru, ⟨FA, fn, fc⟩⟩ := q
 have HS := Lib.hid hs
 obtain ⟨w1, hw1⟩ : ∃ y, y = w.alloc (.cells #[.slice CA cn cc, .int .i64 ru, .slice FA fn fc] 71) := ⟨_, rfl⟩
 obtain ⟨sb, hsb⟩ : ∃ z, z = w.heap.size := ⟨_, rfl⟩
 have G1 : Hid (Grew w w1) := by unfold Hid; rw [hw1]; exact (Grew.refl w).alloc _
 have HSB : Hid (Blk w1 sb 71 [.slice CA cn cc, .int .i64 ru, .slice FA fn fc]) := by unfold Hid; rw [hw1, hsb]; exact Blk.new w 71 [.slice CA cn cc, .int .i64 ru, .slice FA fn fc]
 have HRP := Lib.hid h
 obtain ⟨t, ht⟩ : ∃ t, badB (envP p) s = t := ⟨_, rfl⟩
 rw [ht]
 have HT := Lib.hid ht
 clear h hs ht
 show Calls Tryz.prog 93 #[.pointer (some ⟨cb, 0, none⟩), .agg #[.slice CA cn cc, .int .i64 ru, .slice FA fn fc]] w _
 go_enter Tryz.func93, Tryz.ntmps93
 go_upto_region 1 with (fail)
 rw [← hw1, ← hsb]
 clear hw1 hsb
 have hA : ∀ w', Grew w1.drew w' → w'.cell? ⟨sb, 0, none⟩ = some (.slice CA cn cc) ∧ w'.cell? ⟨sb, 1, none⟩ = some (.int .i64 ru) ∧ w'.cell? ⟨sb, 2, none⟩ = some (.slice FA fn fc) := fun w' g' => by
  have gg := HSB.out.grew ((Grew.refl w1).drew.trans g')
  exact ⟨gg.cell rfl, gg.cell rfl, gg.cell rfl⟩
 have HA := Lib.hid hA
 clear hA
 refine wp_region_G (by kernel_rfl) Grew.refl 8 ?_
 refine wpAnyG_takes Grew.refl (fun _ _ _ => Grew.trans) (fun _ _ _ _ _ h => h) [0, 1, 2, 3, 4] (fuel' := 3) (by kernel_rfl) (by kernel_rfl) (by simp only [pickOps, ugT, ug0, ug1]; rfl) ?_
 repeat (first
  | (refine TakeAll.pure (v := ?_) (by rfl) ?_ ?_; rotate_left; (intro w' g'; obtain ⟨y1, y2, y3⟩ := HA.out w' g'; go_simp; first | done | with_reducible rfl); (simp only [Act.put, uzT, uz0, uz1]))
  | (refine TakeAll.skip (by rfl) ?_; (simp only [Act.put, uzT, uz0, uz1])))
 refine TakeAll.nil ?_
 refine wpAnyG_stepW (i := 5) (by kernel_rfl) (fuel' := 2) (by kernel_rfl) (by simp only [pickOps, ugT, ug0, ug1]; rfl) (by rfl) ?_
 intro w3 g3 K hK
 have G3 := G1.out.trans ((Grew.refl w1).drew.trans g3)
 refine wp_callJ 122 _ (by go_simp; first | done | rfl) ?_
 refine (denied122 (HRP.out.grew G3) (HS.out.grew G3) hp).mono ?_
 intro r w4 hr
 cases hD : denied (envP p) s with
 | none =>
  rw [hD] at hr
  obtain ⟨rfl, g4⟩ := hr
  have HF : t = false := by rw [← HT.out]; unfold badB; rw [hD]
  subst HF
  exact .inr ⟨_, rfl, rfl, judge_false rfl, G3.trans g4⟩
 | some rs =>
  rw [hD] at hr
  obtain ⟨A4, c4, rfl, own4, hl4, g4⟩ := hr
  refine .inl ⟨_, rfl, hK _ _ g4 ?_⟩
  clear hK K HA
  simp only [Act.put, uzT, uz0, uz1]
  have HTV : WageTop.violated (envP p) rs = t := by rw [← HT.out]; unfold badB; rw [hD]
  have HI : Hid (Ints w4 A4 p.dn c4 rs) := Ints.own hl4 own4
  have G4 := G3.trans g4
  clear own4 hD
  refine wpAnyG_stepW (i := 6) (by kernel_rfl) (fuel' := 1) (by kernel_rfl) (by simp only [pickOps, ugT, ug0, ug1]; rfl) (by rfl) ?_
  intro w5 g5 K hK
  refine wp_call 121 _ (by go_simp; first | done | rfl) ?_
  refine (viol121 (HRP.out.grew (G4.trans g5)) (HI.out.grew g5) (Nat.le_refl _) HTV).mono ?_
  rintro r w6 ⟨rfl, g6⟩
  refine ⟨_, rfl, hK _ _ g6 ?_⟩
  clear hK K
  simp only [Act.put, uzT, uz0, uz1]
  have G6 := (G4.trans g5).trans g6
  refine wpAnyG_stepW (i := 7) (by kernel_rfl) (fuel' := 0) (by kernel_rfl) (by simp only [pickOps, ugT, ug0, ug1]; rfl) (by rfl) ?_
  intro w7 g7 K hK
  refine wp_callJ 96 _ (by go_simp; first | done | rfl) ?_
  refine (require96 t _).mono ?_
  rintro r w8 ⟨hj, rfl⟩
  cases t with
  | false =>
   obtain rfl : r = .panicked failC := hj
   exact .inr ⟨_, rfl, rfl, judge_false rfl, G6.trans g7⟩
  | true =>
   obtain rfl : r = .returned (.tuple #[]) := hj
   refine .inl ⟨_, rfl, hK _ _ (Grew.refl _) ?_⟩
   clear hK K
   refine wpAnyG_done (by kernel_rfl) ?_ _
   intro w9 g9
   refine bodyPost_end (results_none rfl _ _ _) rfl ?_
   exact ⟨judge_true rfl, (G6.trans g7).trans g9⟩
set_option maxRecDepth 100000 in
set_option maxHeartbeats 16000000 in
theorem cost94 {w : World} {cb : Nat} {p : Pl} {M N : Pc} {ps : List Pc} {bound : Int} {LA : Option Addr} {ln lc : Nat} {log : List Stp} {kk : Int} {q : Qs} {s : Stp} (h : CrAt w cb p M N ps bound LA ln lc log kk) (hs : StRd w q s) (hp : s.cl.all (proper (envP p)) = true) :
  Calls Tryz.prog 94 #[.pointer (some ⟨cb, 0, none⟩), .agg #[pcV q.cl, .int .i64 q.ru, pcV q.fr]] w fun e w' => Judge (costB (envP p) bound s) e ∧ Grew w w' := by
 obtain ⟨⟨CA, cn, cc⟩, ru, ⟨FA, fn, fc⟩⟩ := q
 have HS := Lib.hid hs
 obtain ⟨w1, hw1⟩ : ∃ y, y = w.alloc (.cells #[.slice CA cn cc, .int .i64 ru, .slice FA fn fc] 71) := ⟨_, rfl⟩
 obtain ⟨sb, hsb⟩ : ∃ z, z = w.heap.size := ⟨_, rfl⟩
 have G1 : Hid (Grew w w1) := by unfold Hid; rw [hw1]; exact (Grew.refl w).alloc _
 have HSB : Hid (Blk w1 sb 71 [.slice CA cn cc, .int .i64 ru, .slice FA fn fc]) := by unfold Hid; rw [hw1, hsb]; exact Blk.new w 71 [.slice CA cn cc, .int .i64 ru, .slice FA fn fc]
 have HCR := Lib.hid h
 have HEB := Lib.hid (env_bd h.fact.pl h.ok)
 have hd24 : p.dn ≤ 24 := (dn_le h.ok).1
 obtain ⟨t, ht⟩ : ∃ t, costB (envP p) bound s = t := ⟨_, rfl⟩
 rw [ht]
 have HT := Lib.hid ht
 clear h hs ht
 show Calls Tryz.prog 94 #[.pointer (some ⟨cb, 0, none⟩), .agg #[.slice CA cn cc, .int .i64 ru, .slice FA fn fc]] w _
 go_enter Tryz.func94, Tryz.ntmps94
 go_upto_region 2 with (fail)
 rw [← hw1, ← hsb]
 clear hw1 hsb
 have s0 : w1.cell? ⟨sb, 0, none⟩ = some (.slice CA cn cc) := HSB.out.cell rfl
 have s1 : w1.cell? ⟨sb, 1, none⟩ = some (.int .i64 ru) := HSB.out.cell rfl
 have s2 : w1.cell? ⟨sb, 2, none⟩ = some (.slice FA fn fc) := HSB.out.cell rfl
 go_wp2_with fail
 refine (denied122 (HCR.out.grew G1.out).rp (HS.out.grew G1.out) hp).mono ?_
 intro r w4 hr
 clear s0 s1 s2
 cases hD : denied (envP p) s with
 | none =>
  rw [hD] at hr
  obtain ⟨rfl, g4⟩ := hr
  have HF : t = false := by rw [← HT.out]; unfold costB; rw [hD]
  subst HF
  exact ⟨rfl, judge_false rfl, G1.out.trans g4⟩
 | some rs =>
  rw [hD] at hr
  obtain ⟨A4, c4, rfl, own4, hl4, g4⟩ := hr
  have HTV : Hid (decide (bound ≤ floorF (envP p) 0 rs) = t) := by unfold Hid; rw [← HT.out]; unfold costB; rw [hD]
  have HI : Hid (Ints w4 A4 p.dn c4 rs) := Ints.own hl4 own4
  have HLN : Hid (rs.length = p.dn) := hl4
  have HLW : Hid (∀ x ∈ rs, x < (p.wn : Int)) := denied_lt hp hD
  have HG4 := Lib.hid (G1.out.trans g4)
  obtain ⟨F, hF⟩ : ∃ z, floorF (envP p) 0 rs = z := ⟨_, rfl⟩
  have HFF : Hid (0 + floorF (envP p) 0 (rs.drop 0) = F) := by unfold Hid; rw [List.drop_zero, hF, Int.zero_add]
  rw [hF] at HTV
  have hch := cheap_bd (by decide) HEB.out.wage (envP p).nW
  obtain ⟨ch, hchh⟩ : ∃ z, cheapest (envP p) p.wn = z := ⟨_, rfl⟩
  have HCH := Lib.hid hchh
  rw [show (envP p).nW = p.wn from rfl, hchh] at hch
  have c12 : ∀ y, Grew w4 y → y.cell? ⟨cb, 12, none⟩ = some (.int .i64 ch) := fun y g => by rw [← hchh]; exact (HCR.out.grew (HG4.out.trans g)).rp.cells 12 _ rfl
  have HC12 := Lib.hid c12
  clear own4 hl4 hD hF g4 hchh c12
  go_wp2_with fail
  go_loopw [4, 12] (fun s i y => ∃ (k : Nat) (T : Int), k ≤ p.dn ∧ i = .int .i64 k ∧ s = .int .i64 T ∧ Hid (T + floorF (envP p) k (rs.drop k) = F) ∧ (0 ≤ T ∧ T ≤ (k : Int) * 1440000000) ∧ Hid (Grew w4 y)) (fun _ i _ => p.dn - (intOf i).toNat)
  case atStart => exact ⟨0, 0, Nat.zero_le _, rfl, rfl, HFF.out, ⟨by omega, by omega⟩, Grew.refl _⟩
  case round =>
   clear HFF
   obtain ⟨k, T, hk, rfl, rfl, HZ, hT, HR⟩ := hrel
   by_cases hlt : k < p.dn
   ·obtain ⟨bb, oo, hA, hcc⟩ := (HI.out.grew HR.out).at_ (by omega)
    obtain ⟨x, hx⟩ : ∃ x, rs[k]? = some x := ⟨_, List.getElem?_eq_getElem (by rw [HLN.out]; exact hlt)⟩
    have c0 := hcc k _ hx
    have hxw := HLW.out x (List.mem_of_getElem? hx)
    have HZ2 : Hid (T + ((if 0 ≤ x then (envP p).wage x.toNat else ch) * (envP p).dur k + floorF (envP p) (k + 1) (rs.drop (k + 1))) = F) := by
     unfold Hid
     rw [← HZ.out, drop_at' hx, ← HCH.out]
     rfl
    clear hcc hx HZ
    have hcr := HCR.out.grew (HG4.out.trans HR.out)
    obtain ⟨bd, od, yd, hDa, hyd, ⟨d0, d1, _⟩, _⟩ := hcr.fact.pl.ds.at_ hlt
    have hbd := HEB.out.dur k
    have hdur : (envP p).dur k = yd.b - yd.a := by show (p.du k).b - (p.du k).a = _; rw [du_at hyd]
    rw [hdur] at hbd HZ2
    obtain ⟨ya, yb, ys⟩ := yd
    simp only at d0 d1 hbd HZ2
    have c3 : wr.cell? ⟨cb, 3, none⟩ = some (.slice (some ⟨bd, od, none⟩) p.dn p.dc) := by rw [← hDa]; exact hcr.rp.cells 3 _ rfl
    have e1 : (0 : Int) ≤ (k : Int) := by omega
    have e2 : (k : Int) < (p.dn : Int) := by omega
    have c2 := HC12.out _ HR.out
    have HCW : Hid (RpAt wr cb p M N ps) := hcr.rp
    have hA8 : ∀ w', Grew wr.drew w' → w'.cell? ⟨cb, 3, none⟩ = some (.slice (some ⟨bd, od, none⟩) p.dn p.dc) ∧ w'.cell? ⟨bd, od + k * 3, none⟩ = some (.int .i64 ya) ∧ w'.cell? ⟨bd, od + k * 3 + 1, none⟩ = some (.int .i64 yb) := fun w' g' => by
     have gg := (Grew.refl wr).drew.trans g'
     exact ⟨gg.cell c3, gg.cell d0, gg.cell d1⟩
    have HA8 := Lib.hid hA8
    subst hA
    clear hcr hyd hDa hdur c3 d0 d1 hA8
    have hwb : (0 : Int) ≤ yb - ya ∧ yb - ya ≤ 1440 := hbd
    by_cases hx0 : 0 ≤ x
    ·obtain ⟨xN, rfl⟩ : ∃ z : Nat, x = (z : Int) := ⟨x.toNat, by omega⟩
     have hxN : xN < p.wn := by omega
     obtain ⟨bw, ow, xx, hWa, hxx, ⟨_, _, _, v3, _⟩, _⟩ := HCW.out.fact.pl.ws.at_ hxN
     have hwg := HEB.out.wage xN
     rw [wage_envP hxx] at hwg
     have HZ3 : Hid (T + (xx.wg * (yb - ya) + floorF (envP p) (k + 1) (rs.drop (k + 1))) = F) := by unfold Hid; rw [← HZ2.out, if_pos hx0, Int.toNat_natCast, wage_envP hxx]
     obtain ⟨xnm, xsk, xmi, wg, xA, xn, xc, xaw⟩ := xx
     simp only at v3 hwg HZ3
     have c4 : wr.cell? ⟨cb, 4, none⟩ = some (.slice (some ⟨bw, ow, none⟩) p.wn p.wc) := by rw [← hWa]; exact HCW.out.cells 4 _ rfl
     have q0 : decide ((xN : Int) ≥ 0) = true := decide_eq_true hx0
     have q0' : decide (0 ≤ (xN : Int)) = true := decide_eq_true hx0
     have i1 : (0 : Int) ≤ (xN : Int) := by omega
     have i2 : (xN : Int) < (p.wn : Int) := by omega
     clear hxx hWa HZ2 hx0 HCW
     obtain ⟨Y, hY⟩ : ∃ z, wg * (yb - ya) = z := ⟨_, rfl⟩
     have hYb := mul_bd hwg hwb
     rw [hY] at hYb HZ3
     have m1 : IntKind.i64.wrap (yb - ya) = yb - ya := IntWalk.i64_in _ (by omega)
     have m2 : IntKind.i64.wrap (wg * (yb - ya)) = Y := by rw [hY]; exact IntWalk.i64_in _ (by omega)
     have m3 : IntKind.i64.wrap (T + Y) = T + Y := IntWalk.i64_in _ (by omega)
     have hTY : 0 ≤ T + Y ∧ T + Y ≤ ((k + 1 : Nat) : Int) * 1440000000 := by omega
     have HZ4 : Hid (T + Y + floorF (envP p) (k + 1) (rs.drop (k + 1)) = F) := by unfold Hid; rw [← HZ3.out]; omega
     clear hY HZ3 hYb
     go_upto_region 8 with (fail)
     clear c0 c2 c4 v3 q0 q0'
     refine wp_region_seq (by kernel_rfl) Grew.refl (fun _ _ _ => Grew.trans) (fun _ _ _ _ _ h => h) (by kernel_rfl) ?_
     repeat (first
      | (refine TakeAll.pure (v := ?_) (by rfl) ?_ ?_; rotate_left; (intro w' g'; obtain ⟨y1, y2, y3⟩ := HA8.out w' g'; go_simp; first | done | with_reducible rfl); (simp only [Act.put, uzT, uz0, uz1]))
      | (refine TakeAll.skip (by rfl) ?_; (simp only [Act.put, uzT, uz0, uz1])))
     refine TakeAll.nil ?_
     intro w5 g5
     have HR5 := Lib.hid (HR.out.trans ((Grew.refl wr).drew.trans g5))
     clear g5 HR HA8
     go_wp2_with fail
     go_roundw
     case rel => exact ⟨k + 1, T + Y, by omega, by go_num, rfl, HZ4, hTY, HR5⟩
     case measure => simp [intOf]; omega
    ·have HZ3 : Hid (T + (ch * (yb - ya) + floorF (envP p) (k + 1) (rs.drop (k + 1))) = F) := by unfold Hid; rw [← HZ2.out, if_neg hx0]
     have q0 : decide (x ≥ 0) = false := decide_eq_false (by omega)
     have q0' : decide (0 ≤ x) = false := decide_eq_false (by omega)
     clear HZ2 hx0 HCW
     obtain ⟨Y, hY⟩ : ∃ z, ch * (yb - ya) = z := ⟨_, rfl⟩
     have hYb := mul_bd hch hwb
     rw [hY] at hYb HZ3
     have m1 : IntKind.i64.wrap (yb - ya) = yb - ya := IntWalk.i64_in _ (by omega)
     have m2 : IntKind.i64.wrap (ch * (yb - ya)) = Y := by rw [hY]; exact IntWalk.i64_in _ (by omega)
     have m3 : IntKind.i64.wrap (T + Y) = T + Y := IntWalk.i64_in _ (by omega)
     have hTY : 0 ≤ T + Y ∧ T + Y ≤ ((k + 1 : Nat) : Int) * 1440000000 := by omega
     have HZ4 : Hid (T + Y + floorF (envP p) (k + 1) (rs.drop (k + 1)) = F) := by unfold Hid; rw [← HZ3.out]; omega
     clear hY HZ3 hYb
     go_upto_region 8 with (fail)
     clear c0 c2 q0 q0'
     refine wp_region_seq (by kernel_rfl) Grew.refl (fun _ _ _ => Grew.trans) (fun _ _ _ _ _ h => h) (by kernel_rfl) ?_
     repeat (first
      | (refine TakeAll.pure (v := ?_) (by rfl) ?_ ?_; rotate_left; (intro w' g'; obtain ⟨y1, y2, y3⟩ := HA8.out w' g'; go_simp; first | done | with_reducible rfl); (simp only [Act.put, uzT, uz0, uz1]))
      | (refine TakeAll.skip (by rfl) ?_; (simp only [Act.put, uzT, uz0, uz1])))
     refine TakeAll.nil ?_
     intro w5 g5
     have HR5 := Lib.hid (HR.out.trans ((Grew.refl wr).drew.trans g5))
     clear g5 HR HA8
     go_wp2_with fail
     go_roundw
     case rel => exact ⟨k + 1, T + Y, by omega, by go_num, rfl, HZ4, hTY, HR5⟩
     case measure => simp [intOf]; omega
   ·obtain rfl : p.dn = k := by omega
    have HTF : Hid (T = F) := by unfold Hid; have h1 := HZ.out; rw [← HLN.out, List.drop_length] at h1; simpa [floorF] using h1
    have c13 : wr.cell? ⟨cb, 13, none⟩ = some (.int .i64 bound) := (HCR.out.grew (HG4.out.trans HR.out)).blk.cell rfl
    have r1 : decide (T ≥ bound) = t := by rw [← HTV.out, HTF.out]
    have r2 : decide (bound ≤ T) = t := r1
    have HGE := Lib.hid (HG4.out.trans HR.out)
    clear HZ HTF
    go_wp2_with fail
    refine (require96 t _).mono ?_
    rintro r w8 ⟨hj, rfl⟩
    cases t with
    | false =>
     obtain rfl : r = .panicked failC := hj
     exact ⟨rfl, judge_false rfl, HGE.out⟩
    | true =>
     obtain rfl : r = .returned (.tuple #[]) := hj
     clear r1 r2
     go_wp2
     refine bodyPost_end (results_none rfl _ _ _) rfl ?_
     exact ⟨judge_true rfl, HGE.out⟩
end Go.Proofs.YtnnbibmmofnkdaaGreat
