/-
 Base, walked.
-/
import Derived.Test.YtnnbibmmofnkdaaGreatBasC
namespace Go.Proofs.YtnnbibmmofnkdaaGreat
open Go.RowKit Go.Proofs WageMem WageReg WageRec WageSpan WageTop
theorem make_outer (base n : Nat) (hn : n ≤ 1000) (w : World) (hb : base ≤ w.heap.size) : ∃ w', (Instr.makeSlice 118 (.int .i64 (n : Int)) (.int .i64 (n : Int))).run Tryz.prog w = .ok (.slice (some ⟨w.heap.size, 0, none⟩) n n) w' ∧ w'.ownsRow base 119 1 (.slice (some ⟨w.heap.size, 0, none⟩) n n) n (List.replicate n (Value.slice none 0 0)) ∧ Grew w w' := by
 obtain ⟨i0, hi, hz0, hz1, hz2⟩ := info_parts info119
 obtain ⟨w', h1, h2, h3⟩ := run_makeSlice_full (P := Tryz.prog) w base 118 119 i0 (.slice none 0 0) 1 Tryz.underlying118 hi hz0 hz1 .i64 .i64 n (by omega) (by rw [hz2]; omega) (by unfold maxLen; omega) hb
 refine ⟨w', h1, ?_, (Grew.refl w).grown h3 (fun j hj => by cases hj)⟩
 rw [show (Value.slice none 0 0).cells = #[Value.slice none 0 0] from rfl, Nat.mul_one, toList_madeCells_one] at h2
 exact h2
/-- The duties that a worker can't do alone: a row of rows, the first of them filled. -/
structure AlB (y : World) (base ra wn dn : Nat) (gb : Nat → Nat) (f : Nat → Nat → Bool) (k : Nat) (cs : List Value) : Prop where
 out : y.ownsRow base 119 1 (.slice (some ⟨ra, 0, none⟩) wn wn) wn cs
 at_ : ∀ i, i < k → cs[i]? = some (.slice (some ⟨gb i, 0, none⟩) dn dn)
 row : ∀ i, i < k → y.ownsRow base 4 1 (.slice (some ⟨gb i, 0, none⟩) dn dn) dn (((List.range dn).map (f i)).map bV)
theorem AlB.grew {y y' : World} {base ra wn dn : Nat} {gb : Nat → Nat} {f : Nat → Nat → Bool} {k : Nat} {cs : List Value} (h : AlB y base ra wn dn gb f k cs) (g : Grew y y') : AlB y' base ra wn dn gb f k cs :=
 ⟨own_grew h.out g, h.at_, fun i hi => own_grew (h.row i hi) g⟩
/-- It stays where a log gets a step more. -/
theorem AlB.log {y y' : World} {base base' ra wn dn : Nat} {gb : Nat → Nat} {f : Nat → Nat → Bool} {k : Nat} {cs : List Value} (h : AlB y base ra wn dn gb f k cs) {G : Value} {n : Nat} {xs : List Value} (ho : y.ownsRow base' 71 3 G n xs) (g : y.grownBy y' G.ownBlock) : AlB y' base ra wn dn gb f k cs :=
 ⟨h.out.kept g (.inr (fun e => WageTop.own_apart h.out ho (by decide) |>.elim (fun h => by cases h) (fun h => h e))), h.at_, fun i hi => (h.row i hi).kept g (.inr (fun e => WageTop.own_apart (h.row i hi) ho (by decide) |>.elim (fun h => by cases h) (fun h => h e)))⟩
/-- A cell of another row of bools is written. -/
theorem AlB.set {y : World} {base ra wn dn : Nat} {gb : Nat → Nat} {f : Nat → Nat → Bool} {k : Nat} {cs : List Value} (h : AlB y base ra wn dn gb f k cs) {g n c : Nat} {xs : List Value} {bs : Nat} (ho : y.ownsRow bs 4 1 (.slice (some ⟨g, 0, none⟩) n c) n xs) (hne : ∀ i, i < k → gb i ≠ g) (i : Nat) (v : Value) : AlB (y.setCell ⟨g, i, none⟩ v) base ra wn dn gb f k cs :=
 ⟨h.out.kept (grown_set y g i v) (.inr (fun e => WageTop.own_apart h.out ho (by decide) |>.elim (fun h => by cases h) (fun h => h e))), h.at_, fun j hj => (h.row j hj).kept (grown_set y g i v) (.inr (fun e => hne j hj (by injection e)))⟩
theorem fill_false {l : List Bool} {n j : Nat} (hj : j < n) (hv : l[j]? = some false) : l.take (j + 1) ++ List.replicate (n - (j + 1)) false = l.take j ++ List.replicate (n - j) false := by
 rw [List.take_add_one, hv, Option.toList, List.append_assoc, show n - j = (n - (j + 1)) + 1 by omega, List.replicate_succ]
 rfl
theorem aloneA1_snoc (E : Env) (w d : Nat) : aloneA1 E w (d + 1) = aloneA1 E w d ++ if aloneB E w d then [bad1 w d] else [] := by unfold aloneA1; rw [range_flat_snoc]
theorem aloneA_snoc (E : Env) (k : Nat) : aloneA E (k + 1) = aloneA E k ++ aloneA1 E k E.nD := by unfold aloneA; rw [range_flat_snoc]
theorem pairA2_snoc {E : Env} {w f g : Nat} (h : f + 1 ≤ g) : pairA2 E w f (g + 1 - (f + 1)) = pairA2 E w f (g - (f + 1)) ++ if pairB E w f g then [bad2 w f g] else [] := by
 unfold pairA2
 rw [show g + 1 - (f + 1) = (g - (f + 1)) + 1 by omega, List.range'_1_concat, List.flatMap_append, List.flatMap_singleton, show f + 1 + (g - (f + 1)) = g by omega]
theorem pairA1_snoc (E : Env) (w k : Nat) : pairA1 E w (k + 1) = pairA1 E w k ++ pairA2 E w k (E.nD - (k + 1)) := by unfold pairA1; rw [range_flat_snoc]
theorem pairA_snoc (E : Env) (k : Nat) : pairA E (k + 1) = pairA E k ++ pairA1 E k E.nD := by unfold pairA; rw [range_flat_snoc]
/-- What Base returns. -/
def RetBs (p : Pl) (w : World) (e : Ending) (w' : World) : Prop := ∃ GA n gc base, e = .returned (.slice GA n gc) ∧ LogAt base (fun _ => True) w' (.slice GA n gc) (baseF (envP p)) ∧ (baseF (envP p)).length = n ∧ n ≤ 20000 ∧ Grew w w'
set_option maxRecDepth 100000 in
set_option maxHeartbeats 16000000 in
theorem base25 {w : World} {p : Pl} (hp : PlanAt w p) (ok : planB p = true) (hd7 : p.dn ≤ 7) : Calls Tryz.prog 25 #[planV p] w (RetBs p w) := by
 obtain ⟨i0, hi0, hz0, hz1, hz2⟩ := info_parts info71
 have HP := Lib.hid hp
 have HOK := Lib.hid ok
 have wn12 : p.wn ≤ 12 := (dn_le ok).2
 clear hp ok
 show Calls Tryz.prog 25 #[.agg #[.string p.nm, .int .i64 p.zb, .slice p.C p.cn p.cc, .slice p.D p.dn p.dc, .slice p.W p.wn p.wc, .int .i64 p.lm.rest, .int .i64 p.lm.week, .int .i64 p.lm.nf, .int .i64 p.lm.nt, .int .i64 p.lm.mn]] w _
 obtain ⟨w1, hw1⟩ : ∃ y, y = w.alloc (.cells #[.string p.nm, .int .i64 p.zb, .slice p.C p.cn p.cc, .slice p.D p.dn p.dc, .slice p.W p.wn p.wc, .int .i64 p.lm.rest, .int .i64 p.lm.week, .int .i64 p.lm.nf, .int .i64 p.lm.nt, .int .i64 p.lm.mn] 32) := ⟨_, rfl⟩
 obtain ⟨tb, htb⟩ : ∃ z, z = w.heap.size := ⟨_, rfl⟩
 have g1 : Grew w w1 := by rw [hw1]; exact (Grew.refl w).alloc _
 have X1 : Hid (Blk w1 tb 32 (planC p)) := by unfold Hid; rw [hw1, htb]; exact Blk.new w 32 (planC p)
 have HG1 := Lib.hid g1
 clear g1
 go_enter Tryz.func25, Tryz.ntmps25
 go_upto_region 1 with (fail)
 rw [← hw1, ← htb]
 clear hw1 htb
 have v0 : w1.cell? ⟨tb, 0, none⟩ = some (.string p.nm) := X1.out.cell rfl
 have v1 : w1.cell? ⟨tb, 1, none⟩ = some (.int .i64 p.zb) := X1.out.cell rfl
 have v2 : w1.cell? ⟨tb, 2, none⟩ = some (.slice p.C p.cn p.cc) := X1.out.cell rfl
 have v3 : w1.cell? ⟨tb, 3, none⟩ = some (.slice p.D p.dn p.dc) := X1.out.cell rfl
 have v4 : w1.cell? ⟨tb, 4, none⟩ = some (.slice p.W p.wn p.wc) := X1.out.cell rfl
 have v5 : w1.cell? ⟨tb, 5, none⟩ = some (.int .i64 p.lm.rest) := X1.out.cell rfl
 have v6 : w1.cell? ⟨tb, 6, none⟩ = some (.int .i64 p.lm.week) := X1.out.cell rfl
 have v7 : w1.cell? ⟨tb, 7, none⟩ = some (.int .i64 p.lm.nf) := X1.out.cell rfl
 have v8 : w1.cell? ⟨tb, 8, none⟩ = some (.int .i64 p.lm.nt) := X1.out.cell rfl
 have v9 : w1.cell? ⟨tb, 9, none⟩ = some (.int .i64 p.lm.mn) := X1.out.cell rfl
 go_wp2_with fail
 refine (prep33 p w1 (HP.out.grew HG1.out)).mono ?_
 rintro r w2 (⟨_, cb, rfl, hck, g2⟩ | ⟨h, _⟩)
 rotate_left
 ·exact absurd (HOK.out.symm.trans h) (by simp)
 obtain ⟨w3, hw3⟩ : ∃ y, y = w2.alloc (.cells #[.pointer (some ⟨cb, 0, none⟩)] 87) := ⟨_, rfl⟩
 obtain ⟨kb, hkb⟩ : ∃ z, z = w2.heap.size := ⟨_, rfl⟩
 have g3 : Grew w2 w3 := by rw [hw3]; exact (Grew.refl w2).alloc _
 have HKB : Hid (Blk w3 kb 87 [.pointer (some ⟨cb, 0, none⟩)]) := by unfold Hid; rw [hw3, hkb]; exact Blk.new w2 87 _
 have HCK := Lib.hid (hck.grew g3)
 have X3 := Lib.hid ((X1.out.grew g2).grew g3)
 have HG3 := Lib.hid ((HG1.out.trans g2).trans g3)
 clear v0 v1 v2 v3 v4 v5 v6 v7 v8 v9 g2 g3 hck X1 HG1
 go_upto_region 4 with (fail)
 rw [← hw3, ← hkb]
 clear hw3 hkb
 have v3 : w3.cell? ⟨tb, 3, none⟩ = some (.slice p.D p.dn p.dc) := X3.out.cell rfl
 have v4 : w3.cell? ⟨tb, 4, none⟩ = some (.slice p.W p.wn p.wc) := X3.out.cell rfl
 go_wp2_with fail
 refine (exactlyOne55 hd7 wn12).mono ?_
 rintro r w4 ⟨GA, n0, gc, rfl, hl0, hn0, hn0b, g4⟩
 have HL4 := Lib.hid hl0
 have HN4 := Lib.hid hn0
 have HR4 := Lib.hid g4
 obtain ⟨base, hbase⟩ : ∃ z, z = w3.heap.size := ⟨_, rfl⟩
 rw [← hbase] at HL4
 have HBE := Lib.hid hbase
 have hb4 : base ≤ w4.heap.size := by rw [hbase]; exact g4.le
 clear hl0 hn0 g4 v3 v4
 obtain ⟨wm, hmk, hown, gm⟩ := make_outer base p.wn (by omega) w4 hb4
 obtain ⟨ra, hra⟩ : ∃ z, z = w4.heap.size := ⟨_, rfl⟩
 rw [← hra] at hmk hown
 have HRA : Hid (w3.heap.size ≤ ra) := by unfold Hid; omega
 have HAL : Hid (AlB wm base ra p.wn p.dn (fun _ => 0) (aloneB (envP p)) 0 (List.replicate p.wn (Value.slice none 0 0))) := ⟨hown, fun i hi => by omega, fun i hi => by omega⟩
 have HL5 := Lib.hid (HL4.out.grew gm)
 have HR5 := Lib.hid (HR4.out.trans gm)
 have v3 : w4.cell? ⟨tb, 3, none⟩ = some (.slice p.D p.dn p.dc) := HR4.out.cell (X3.out.cell rfl)
 have v4 : w4.cell? ⟨tb, 4, none⟩ = some (.slice p.W p.wn p.wc) := HR4.out.cell (X3.out.cell rfl)
 obtain ⟨S0, hS0⟩ : ∃ z, someA p.dn p.wn ++ oneA p.dn p.wn = z := ⟨_, rfl⟩
 rw [hS0] at HN4 HL5
 have HS0 := Lib.hid hS0
 clear hown gm hra hS0 HL4 HR4 hbase hb4
 go_upto_region 7 with (fail)
 clear hmk v3 v4
 have v3 : wm.cell? ⟨tb, 3, none⟩ = some (.slice p.D p.dn p.dc) := HR5.out.cell (X3.out.cell rfl)
 have v4 : wm.cell? ⟨tb, 4, none⟩ = some (.slice p.W p.wn p.wc) := HR5.out.cell (X3.out.cell rfl)
 go_wp2_with fail
 clear v3 v4
 go_loopw [5, 35] (fun v i y => ∃ (k n gc : Nat) (GA : Option Addr) (gb : Nat → Nat) (cs : List Value), k ≤ p.wn ∧ i = .int .i64 k ∧ v = .slice GA n gc ∧ n ≤ 2000 + k * 7 ∧ Hid (LogAt base (fun _ => True) y (.slice GA n gc) (S0 ++ aloneA (envP p) k)) ∧ Hid ((S0 ++ aloneA (envP p) k).length = n) ∧ Hid (AlB y base ra p.wn p.dn gb (aloneB (envP p)) k cs) ∧ Hid (Grew w3 y)) (fun _ i _ => p.wn - (intOf i).toNat)
 case atStart => exact ⟨0, n0, gc, GA, fun _ => 0, _, Nat.zero_le _, rfl, rfl, by omega, by unfold Hid aloneA; rw [List.range_zero, List.flatMap_nil, List.append_nil]; exact HL5.out, by unfold Hid aloneA; rw [List.range_zero, List.flatMap_nil, List.append_nil]; exact HN4.out, HAL.out, HR5.out⟩
 case round =>
  clear HL5 HN4 HAL HR5
  obtain ⟨k, n, gc, GA, gb, cs, hk, rfl, rfl, hn, HL, HN, HAL, HR⟩ := hrel
  by_cases hlt : k < p.wn
  ·have e1 : decide ((k : Int) < (p.wn : Int)) = true := decide_eq_true (by omega)
   have f1 : (0 : Int) ≤ (k : Int) := by omega
   have f2 : (k : Int) < (p.wn : Int) := by omega
   have v3 : wr.cell? ⟨tb, 3, none⟩ = some (.slice p.D p.dn p.dc) := HR.out.cell (X3.out.cell rfl)
   obtain ⟨wb, hmk, hown, gm2⟩ := make_bools base p.dn (by omega) wr (by have h1 := HR.out.le; have h2 := HBE.out; omega)
   obtain ⟨gk, hgk⟩ : ∃ z, z = wr.heap.size := ⟨_, rfl⟩
   have HNE : Hid (∀ i, i < k → gb i ≠ gk) := fun i hi e => by
    have := ((HAL.out.row i hi).lt (gb i) rfl).2
    omega
   rw [← hgk] at hmk hown
   have HGK : Hid (w3.heap.size ≤ gk) := by have := HR.out.le; unfold Hid; omega
   have HALb := Lib.hid (HAL.out.grew gm2)
   obtain ⟨cv, hcv⟩ : ∃ v, cs[k]? = some v := ⟨_, List.getElem?_eq_getElem (by have := HAL.out.out.1; omega)⟩
   have c0 := (HALb.out.out.cellAt k (by omega)).trans hcv
   have f0 := HALb.out.out.frozenAt k
   have OS := HALb.out.out.stored k (.slice (some ⟨gk, 0, none⟩) p.dn p.dn)
   obtain ⟨w6, hw6⟩ : ∃ y, y = wb.setCell ⟨ra, k, none⟩ (.slice (some ⟨gk, 0, none⟩) p.dn p.dn) := ⟨_, rfl⟩
   rw [← hw6] at OS
   obtain ⟨cs2, hcs2⟩ : ∃ z, cs.set k (.slice (some ⟨gk, 0, none⟩) p.dn p.dn) = z := ⟨_, rfl⟩
   have HCK2 : Hid (cs2[k]? = some (.slice (some ⟨gk, 0, none⟩) p.dn p.dn)) := by unfold Hid; rw [← hcs2, List.getElem?_set_self (List.getElem?_eq_some_iff.1 hcv).1]
   have HAL6 : Hid (AlB w6 base ra p.wn p.dn gb (aloneB (envP p)) k cs2) := by
    refine ⟨hcs2 ▸ OS.1, fun i hi => ?_, fun i hi => (HALb.out.row i hi).kept OS.2 (.inr (fun e => WageTop.own_apart (HALb.out.row i hi) HALb.out.out (by decide) |>.elim (fun h => by cases h) (fun h => h e)))⟩
    rw [← hcs2, List.getElem?_set_ne (by omega)]
    exact HAL.out.at_ i hi
   have HRW : Hid (w6.ownsRow base 4 1 (.slice (some ⟨gk, 0, none⟩) p.dn p.dn) p.dn ((((List.range p.dn).map (aloneB (envP p) k)).take 0 ++ List.replicate (p.dn - 0) false).map bV)) :=
    hown.kept OS.2 (.inr (fun e => WageTop.own_apart hown HALb.out.out (by decide) |>.elim (fun h => by cases h) (fun h => h e)))
   have HR6 : Hid (Grew w3 w6) := (HR.out.trans gm2).grown OS.2 (fun j hj => by
    injection hj with hj
    have := HRA.out
    omega)
   obtain ⟨S1, hS1⟩ : ∃ z, S0 ++ aloneA (envP p) k = z := ⟨_, rfl⟩
   rw [hS1] at HL HN
   have HS1 := Lib.hid hS1
   have HL6 : Hid (LogAt base (fun _ => True) w6 (.slice GA n gc) S1) := by
    obtain ⟨xs, hxs⟩ := (HL.out.grew gm2).row HN.out
    exact (HL.out.grew gm2).kept OS.2 (fun v m ys h => WageTop.own_apart h HALb.out.out (by decide)) (fun v m ys h => WageTop.own_apart h HALb.out.out (by decide)) (fun v m ys h _ => WageTop.own_apart h HALb.out.out (by decide))
   clear hown gm2 hgk hcv OS hcs2 hS1 HAL HALb HL HR
   go_upto_region 11 with (fail)
   rw [← hw6]
   clear hw6 c0 f0 hmk v3 e1 f1 f2
   have v3 : w6.cell? ⟨tb, 3, none⟩ = some (.slice p.D p.dn p.dc) := HR6.out.cell (X3.out.cell rfl)
   go_wp2_with fail
   clear v3
   go_loopw [5, 48] (fun v i y => ∃ (d n2 gc : Nat) (GA : Option Addr), d ≤ p.dn ∧ i = .int .i64 d ∧ v = .slice GA n2 gc ∧ n2 ≤ n + d ∧ Hid (LogAt base (fun _ => True) y (.slice GA n2 gc) (S1 ++ aloneA1 (envP p) k d)) ∧ Hid ((S1 ++ aloneA1 (envP p) k d).length = n2) ∧ Hid (AlB y base ra p.wn p.dn gb (aloneB (envP p)) k cs2) ∧ Hid (y.ownsRow base 4 1 (.slice (some ⟨gk, 0, none⟩) p.dn p.dn) p.dn ((((List.range p.dn).map (aloneB (envP p) k)).take d ++ List.replicate (p.dn - d) false).map bV)) ∧ Hid (Grew w3 y)) (fun _ i _ => p.dn - (intOf i).toNat)
   case atStart => exact ⟨0, n, gc, GA, Nat.zero_le _, rfl, rfl, by omega, by unfold Hid aloneA1; rw [List.range_zero, List.flatMap_nil, List.append_nil]; exact HL6.out, by unfold Hid aloneA1; rw [List.range_zero, List.flatMap_nil, List.append_nil]; exact HN.out, HAL6.out, HRW.out, HR6.out⟩
   case round =>
    clear HL6 HN HAL6 HRW HR6
    obtain ⟨d, n2, gc, GA, hd, rfl, rfl, hn2, HL, HN, HAL, HRW, HR⟩ := hrel
    by_cases hdt : d < p.dn
    ·have e1 : decide ((d : Int) < (p.dn : Int)) = true := decide_eq_true (by omega)
     obtain ⟨wc, hwc⟩ : ∃ y, y = wr.alloc (.cells #[.int .i64 (d : Int)] 3) := ⟨_, rfl⟩
     have gc' : Grew wr wc := by rw [hwc]; exact (Grew.refl wr).alloc _
     have HII : Hid (Ints wc (some ⟨wr.heap.size, 0, none⟩) 1 1 [(d : Int)]) := ⟨rfl, by rw [hwc]; exact builtS (w := wr) (t := 3) 1 1 #[.int .i64 (d : Int)] _ rfl rfl (by decide)⟩
     have HRc := Lib.hid (HR.out.trans gc')
     have HLc := Lib.hid (HL.out.grew gc')
     have HALc := Lib.hid (HAL.out.grew gc')
     have HRWc := Lib.hid (own_grew HRW.out gc')
     clear gc' HL HAL HRW HR
     go_wp2_with fail
     rw [← hwc]
     clear hwc
     refine (bad56 (cb := cb) (X3.out.grew HRc.out) ((HKB.out.grew HRc.out).cell rfl) (HCK.out.grew HRc.out) HOK.out hlt HII.out (fun x hx => by
      rw [List.mem_singleton.1 hx]
      omega) (by omega)).mono ?_
     rintro r w7 ⟨rfl, g7⟩
     obtain ⟨tt, htt⟩ : ∃ z, aloneB (envP p) k d = z := ⟨_, rfl⟩
     have hvv : violP p k (idxF 0 (asgL p.dn k [(d : Int)]) k) = tt := htt
     rw [hvv]
     have HTT := Lib.hid htt
     have HRr := Lib.hid (HRc.out.trans g7)
     have HLr := Lib.hid (HLc.out.grew g7)
     have HALr := Lib.hid (HALc.out.grew g7)
     have HRWr := Lib.hid (own_grew HRWc.out g7)
     have HLd : Hid (((List.range p.dn).map (aloneB (envP p) k))[d]? = some tt) := by unfold Hid; rw [List.getElem?_map, List.getElem?_range hdt, ← htt]; rfl
     clear hvv htt g7 HRc HLc HALc HRWc HII
     cases tt with
     | false =>
      have HL7 : Hid (LogAt base (fun _ => True) w7 (.slice GA n2 gc) (S1 ++ aloneA1 (envP p) k (d + 1))) := by
       unfold Hid
       rw [aloneA1_snoc, HTT.out, if_neg (by decide), List.append_nil]; exact HLr.out
      have HN7 : Hid ((S1 ++ aloneA1 (envP p) k (d + 1)).length = n2) := by
       unfold Hid
       rw [aloneA1_snoc, HTT.out, if_neg (by decide), List.append_nil]; exact HN.out
      have HRW7 : Hid (w7.ownsRow base 4 1 (.slice (some ⟨gk, 0, none⟩) p.dn p.dn) p.dn ((((List.range p.dn).map (aloneB (envP p) k)).take (d + 1) ++ List.replicate (p.dn - (d + 1)) false).map bV)) := by
       unfold Hid
       rw [fill_false hdt HLd.out]; exact HRWr.out
      clear HLr HN HRWr
      go_wp2_with fail
      go_roundw
      case rel => exact ⟨d + 1, n2, gc, GA, by omega, by go_num, rfl, by omega, HL7, HN7, HALr, HRW7, HRr⟩
      case measure => simp [intOf]; omega
     | true =>
      have ca := (HALr.out.out.cellAt k (by omega)).trans HCK2.out
      have i1 : (0 : Int) ≤ (k : Int) := by omega
      have i2 : (k : Int) < (p.wn : Int) := by omega
      have i3 : (0 : Int) ≤ (d : Int) := by omega
      have i4 : (d : Int) < (p.dn : Int) := by omega
      have hfl : ((List.range p.dn).map (aloneB (envP p) k)).length = p.dn := by rw [List.length_map, List.length_range]
      have c0 := (HRWr.out.cellAt d (by omega)).trans (fill_at hfl hdt)
      have f0 := HRWr.out.frozenAt d
      have OS := HRWr.out.stored d (bV true)
      rw [set_fill hfl HLd.out] at OS
      obtain ⟨w8, hw8⟩ : ∃ y, y = w7.setCell ⟨gk, d, none⟩ (.bool true) := ⟨_, rfl⟩
      have HAL8 : Hid (AlB w8 base ra p.wn p.dn gb (aloneB (envP p)) k cs2) := by unfold Hid; rw [hw8]; exact HALr.out.set HRWr.out HNE.out d _
      have HRW8 : Hid (w8.ownsRow base 4 1 (.slice (some ⟨gk, 0, none⟩) p.dn p.dn) p.dn ((((List.range p.dn).map (aloneB (envP p) k)).take (d + 1) ++ List.replicate (p.dn - (d + 1)) false).map bV)) := by unfold Hid; rw [hw8]; exact OS.1
      have HL8 : Hid (LogAt base (fun _ => True) w8 (.slice GA n2 gc) (S1 ++ aloneA1 (envP p) k d)) := by
       unfold Hid
       rw [hw8]
       exact HLr.out.kept (grown_set w7 gk d _) (fun v m ys h => WageTop.own_apart h HRWr.out (by decide)) (fun v m ys h => WageTop.own_apart h HRWr.out (by decide)) (fun v m ys h _ => WageTop.own_apart h HRWr.out (by decide))
      have HR8 : Hid (Grew w3 w8) := by
       unfold Hid
       rw [hw8]
       exact HRr.out.grown (grown_set w7 gk d _) (fun j hj => by injection hj with hj; have := HGK.out; omega)
      clear OS HLr HALr HRWr HRr hfl
      go_upto_region 16 with (fail)
      rw [← hw8]
      clear hw8 ca c0 f0 i1 i2 i3 i4
      go_wp2_with fail
      refine (not58 _ _ _).mono ?_
      rintro r w9 ⟨rfl, g9⟩
      obtain ⟨wd, hwd⟩ : ∃ y, y = w9.alloc (.cells #[.int .i64 (d : Int), .int .i64 (k : Int), .bool false] 122) := ⟨_, rfl⟩
      have gd : Grew w9 wd := by rw [hwd]; exact (Grew.refl w9).alloc _
      have HRC : Hid (Recs encL 3 wd (some ⟨w9.heap.size, 0, none⟩) 1 1 (bad1 k d).cl) := by unfold Hid; rw [hwd]; exact Recs.built encL_ok _ rfl rfl (by omega)
      have gg := g9.trans gd
      have HL9 := Lib.hid (HL8.out.grew gg)
      have HAL9 := Lib.hid (HAL8.out.grew gg)
      have HRW9 := Lib.hid (own_grew HRW8.out gg)
      have HR9 := Lib.hid (HR8.out.trans gg)
      clear g9 gd gg HL8 HAL8 HRW8 HR8
      go_wp2_with fail
      rw [← hwd]
      clear hwd
      refine (denial57 (base := base) HRC.out (by omega) (by have h1 := HR9.out.le; have h2 := HBE.out; omega)).mono ?_
      rintro r w10 ⟨A10, c10, rfl, own10, g10⟩
      have HO10 := Lib.hid own10
      have HL10 := Lib.hid (HL9.out.grew g10)
      have HAL10 := Lib.hid (HAL9.out.grew g10)
      have HRW10 := Lib.hid (own_grew HRW9.out g10)
      have HG10 := Lib.hid (HR9.out.trans g10)
      have HSN : Hid (S1 ++ aloneA1 (envP p) k (d + 1) = (S1 ++ aloneA1 (envP p) k d) ++ [bad1 k d]) := by unfold Hid; rw [aloneA1_snoc, HTT.out, if_pos rfl, List.append_assoc]
      clear own10 g10 HL9 HAL9 HRW9 HR9 HRC
      obtain ⟨wy, hwy⟩ : ∃ y, y = w10.alloc (.cells #[.slice A10 1 c10, .int .i64 3, .slice none 0 0] 71) := ⟨_, rfl⟩
      have gy : Grew w10 wy := by rw [hwy]; exact (Grew.refl w10).alloc _
      have BQ : Hid (Sl wy 3 (some ⟨w10.heap.size, 0, none⟩) 1 1 (encQ ⟨⟨A10, 1, c10⟩, 3, ⟨none, 0, 0⟩⟩)) := by unfold Hid; rw [hwy]; exact builtS (w := w10) (t := 71) 3 1 #[.slice A10 1 c10, .int .i64 3, .slice none 0 0] _ rfl rfl (by decide)
      obtain ⟨xs, hxs⟩ := (HL10.out.grew gy).row HN.out
      have HOV := Lib.hid hxs
      have HGY := Lib.hid gy
      have HBS : Hid (base ≤ wy.heap.size) := by
       have h1 := HBE.out
       have h2 := HG10.out.le
       have h3 := gy.le
       unfold Hid
       omega
      clear gy hxs
      go_upto_region 17 with (at_builtin; rw [← hwy]; refine wpList_append_sl _ rfl (.tmp 62) (.tmp 68) 39 rfl base 71 i0 (.agg #[.slice none 0 0, .int .i64 0, .slice none 0 0]) 3 56 Tryz.underlying39 hi0 hz0 hz1 hz2 rfl (by decide) (.slice GA n2 gc) n2 _ rfl HOV.out (some ⟨w10.heap.size, 0, none⟩) 1 1 _ rfl BQ.out (fun u hu => encQ_ok.one _ u hu) (by unfold maxLen; omega) (by omega) HBS.out ?_; intro v7 w7 own7 hg7 hat7; obtain ⟨A7, c7, rfl⟩ := own_form own7)
      have HL7 : Hid (LogAt base (fun _ => True) w7 (.slice A7 (n2 + 1) c7) (S1 ++ aloneA1 (envP p) k (d + 1))) := by unfold Hid; rw [HSN.out]; exact HL10.out.push HN.out HO10.out (cl := (bad1 k d).cl) rfl HGY.out hg7 (fun ys hy => by rw [own_inj hy HOV.out]; exact own7)
      have HG7 : Hid (Grew w3 w7) := (HG10.out.trans HGY.out).grown hg7 (fun j hj => by
       have h1 := (HOV.out.lt j hj).1
       have h2 := HBE.out
       omega)
      have HN7 : Hid ((S1 ++ aloneA1 (envP p) k (d + 1)).length = n2 + 1) := by unfold Hid; rw [HSN.out, List.length_append, HN.out]; rfl
      have HAL7 : Hid (AlB w7 base ra p.wn p.dn gb (aloneB (envP p)) k cs2) := (HAL10.out.grew HGY.out).log HOV.out hg7
      have HRW7 : Hid (w7.ownsRow base 4 1 (.slice (some ⟨gk, 0, none⟩) p.dn p.dn) p.dn ((((List.range p.dn).map (aloneB (envP p) k)).take (d + 1) ++ List.replicate (p.dn - (d + 1)) false).map bV)) := (own_grew HRW10.out HGY.out).kept hg7 (WageTop.own_apart (own_grew HRW10.out HGY.out) HOV.out (by decide))
      clear hwy own7 hg7 hat7 HOV HGY HBS BQ HAL10 HRW10
      go_wp2_with fail
      go_roundw
      case rel => exact ⟨d + 1, n2 + 1, c7, A7, by omega, by go_num, rfl, by omega, HL7, HN7, HAL7, HRW7, HG7⟩
      case measure => simp [intOf]; omega
    ·obtain rfl : d = p.dn := by omega
     have e1 : decide ((p.dn : Int) < (p.dn : Int)) = false := decide_eq_false (by omega)
     have hfl : ((List.range p.dn).map (aloneB (envP p) k)).length = p.dn := by rw [List.length_map, List.length_range]
     have HAL7 : Hid (AlB wr base ra p.wn p.dn (fun i => if i = k then gk else gb i) (aloneB (envP p)) (k + 1) cs2) := by
      refine ⟨HAL.out.out, fun i hi => ?_, fun i hi => ?_⟩
      ·by_cases e : i = k
       ·subst e
        simp only [if_true]
        exact HCK2.out
       ·simp only [if_neg e]
        exact HAL.out.at_ i (by omega)
      ·by_cases e : i = k
       ·subst e
        simp only [if_true]
        have h1 := HRW.out
        rw [fill_all hfl] at h1
        exact h1
       ·simp only [if_neg e]
        exact HAL.out.row i (by omega)
     have HL7 : Hid (LogAt base (fun _ => True) wr (.slice GA n2 gc) (S0 ++ aloneA (envP p) (k + 1))) := by
      unfold Hid; rw [aloneA_snoc, ← List.append_assoc, HS1.out]; exact HL.out
     have HN7 : Hid ((S0 ++ aloneA (envP p) (k + 1)).length = n2) := by
      unfold Hid; rw [aloneA_snoc, ← List.append_assoc, HS1.out]; exact HN.out
     clear HL HN HAL HRW hfl
     go_wp2_with fail
     go_roundw
     case rel => exact ⟨k + 1, n2, gc, GA, _, cs2, by omega, by go_num, rfl, by omega, HL7, HN7, HAL7, HR⟩
     case measure => simp [intOf]; omega
  ·obtain rfl : k = p.wn := by omega
   have e1 : decide ((p.wn : Int) < (p.wn : Int)) = false := decide_eq_false (by omega)
   obtain ⟨S1, hS1⟩ : ∃ z, S0 ++ aloneA (envP p) p.wn = z := ⟨_, rfl⟩
   rw [hS1] at HL HN
   have HS1 := Lib.hid hS1
   obtain ⟨n0', hn0'⟩ : ∃ z, z = n := ⟨_, rfl⟩
   have v4 : wr.cell? ⟨tb, 4, none⟩ = some (.slice p.W p.wn p.wc) := HR.out.cell (X3.out.cell rfl)
   clear hS1
   obtain ⟨wq, rfl⟩ : ∃ y : World, y = wr := ⟨_, rfl⟩
   go_wp2_with fail
   clear v4 e1
   go_loopw [5, 75] (fun v i y => ∃ (x n1 gc : Nat) (GA : Option Addr), x ≤ p.wn ∧ i = .int .i64 x ∧ v = .slice GA n1 gc ∧ n1 ≤ n + x * 49 ∧ Hid (LogAt base (fun _ => True) y (.slice GA n1 gc) (S1 ++ pairA (envP p) x)) ∧ Hid ((S1 ++ pairA (envP p) x).length = n1) ∧ Hid (AlB y base ra p.wn p.dn gb (aloneB (envP p)) p.wn cs) ∧ Hid (Grew w3 y)) (fun _ i _ => p.wn - (intOf i).toNat)
   case atStart => exact ⟨0, n, gc, GA, Nat.zero_le _, rfl, rfl, by omega, by unfold Hid pairA; rw [List.range_zero, List.flatMap_nil, List.append_nil]; exact HL.out, by unfold Hid pairA; rw [List.range_zero, List.flatMap_nil, List.append_nil]; exact HN.out, HAL.out, HR.out⟩
   case round =>
    clear HL HN HAL HR
    obtain ⟨x, n1, gc, GA, hx, rfl, rfl, hn1, HL, HN, HAL, HR⟩ := hrel
    by_cases hxt : x < p.wn
    ·have e1 : decide ((x : Int) < (p.wn : Int)) = true := decide_eq_true (by omega)
     obtain ⟨S2, hS2⟩ : ∃ z, S1 ++ pairA (envP p) x = z := ⟨_, rfl⟩
     rw [hS2] at HL HN
     have HS2 := Lib.hid hS2
     clear hS2
     have v3 : wr.cell? ⟨tb, 3, none⟩ = some (.slice p.D p.dn p.dc) := HR.out.cell (X3.out.cell rfl)
     obtain ⟨wq2, rfl⟩ : ∃ y : World, y = wr := ⟨_, rfl⟩
     go_wp2_with fail
     clear e1 v3
     go_loopw [5, 81] (fun v i y => ∃ (f n2 gc : Nat) (GA : Option Addr), f ≤ p.dn ∧ i = .int .i64 f ∧ v = .slice GA n2 gc ∧ n2 ≤ n1 + f * 7 ∧ Hid (LogAt base (fun _ => True) y (.slice GA n2 gc) (S2 ++ pairA1 (envP p) x f)) ∧ Hid ((S2 ++ pairA1 (envP p) x f).length = n2) ∧ Hid (AlB y base ra p.wn p.dn gb (aloneB (envP p)) p.wn cs) ∧ Hid (Grew w3 y)) (fun _ i _ => p.dn - (intOf i).toNat)
     case atStart => exact ⟨0, n1, gc, GA, Nat.zero_le _, rfl, rfl, by omega, by unfold Hid pairA1; rw [List.range_zero, List.flatMap_nil, List.append_nil]; exact HL.out, by unfold Hid pairA1; rw [List.range_zero, List.flatMap_nil, List.append_nil]; exact HN.out, HAL.out, HR.out⟩
     case round =>
      clear HL HN HAL HR
      obtain ⟨f, n2, gc, GA, hf, rfl, rfl, hn2, HL, HN, HAL, HR⟩ := hrel
      by_cases hft : f < p.dn
      ·have e1 : decide ((f : Int) < (p.dn : Int)) = true := decide_eq_true (by omega)
       obtain ⟨S3, hS3⟩ : ∃ z, S2 ++ pairA1 (envP p) x f = z := ⟨_, rfl⟩
       rw [hS3] at HL HN
       have HS3 := Lib.hid hS3
       clear hS3
       obtain ⟨wq3, rfl⟩ : ∃ y : World, y = wr := ⟨_, rfl⟩
       go_wp2_with fail
       clear e1
       go_loopw [5, 12] (fun v i y => ∃ (g n3 gc : Nat) (GA : Option Addr), f + 1 ≤ g ∧ g ≤ p.dn ∧ i = .int .i64 g ∧ v = .slice GA n3 gc ∧ n3 + f + 1 ≤ n2 + g ∧ Hid (LogAt base (fun _ => True) y (.slice GA n3 gc) (S3 ++ pairA2 (envP p) x f (g - (f + 1)))) ∧ Hid ((S3 ++ pairA2 (envP p) x f (g - (f + 1))).length = n3) ∧ Hid (AlB y base ra p.wn p.dn gb (aloneB (envP p)) p.wn cs) ∧ Hid (Grew w3 y)) (fun _ i _ => p.dn - (intOf i).toNat)
       case atStart => exact ⟨f + 1, n2, gc, GA, by omega, by omega, by go_num, rfl, by omega, by unfold Hid pairA2; rw [Nat.sub_self, List.range'_zero, List.flatMap_nil, List.append_nil]; exact HL.out, by unfold Hid pairA2; rw [Nat.sub_self, List.range'_zero, List.flatMap_nil, List.append_nil]; exact HN.out, HAL.out, HR.out⟩
       case round =>
        clear HL HN HAL HR
        obtain ⟨g, n3, gc, GA, hfg, hg, rfl, rfl, hn3, HL, HN, HAL, HR⟩ := hrel
        have v3 : wr.cell? ⟨tb, 3, none⟩ = some (.slice p.D p.dn p.dc) := HR.out.cell (X3.out.cell rfl)
        by_cases hgt : g < p.dn
        ·have e1 : decide ((g : Int) < (p.dn : Int)) = true := decide_eq_true (by omega)
         have ca := (HAL.out.out.cellAt x (by omega)).trans (HAL.out.at_ x hxt)
         have hrow := HAL.out.row x hxt
         obtain ⟨tA, htA⟩ : ∃ z, aloneB (envP p) x f = z := ⟨_, rfl⟩
         obtain ⟨tB, htB⟩ : ∃ z, aloneB (envP p) x g = z := ⟨_, rfl⟩
         have c1 := (hrow.cellAt f (by omega)).trans (show (((List.range p.dn).map (aloneB (envP p) x)).map bV)[f]? = some (.bool tA) by rw [List.getElem?_map, List.getElem?_map, List.getElem?_range hft, ← htA]; rfl)
         have c2 := (hrow.cellAt g (by omega)).trans (show (((List.range p.dn).map (aloneB (envP p) x)).map bV)[g]? = some (.bool tB) by rw [List.getElem?_map, List.getElem?_map, List.getElem?_range hgt, ← htB]; rfl)
         have HPP : Hid (pairB (envP p) x f g = (!tA && (!tB && violP p x (idxF 0 (asgL p.dn x [(f : Int), (g : Int)]) x)))) := by
          unfold Hid pairB
          rw [htA, htB]
          rfl
         have i1 : (0 : Int) ≤ (x : Int) := by omega
         have i2 : (x : Int) < (p.wn : Int) := by omega
         have i3 : (0 : Int) ≤ (f : Int) := by omega
         have i4 : (f : Int) < (p.dn : Int) := by omega
         have i5 : (0 : Int) ≤ (g : Int) := by omega
         have i6 : (g : Int) < (p.dn : Int) := by omega
         clear hrow htA htB
         cases tA with
         | true =>
          have HPB : pairB (envP p) x f g = false := HPP.out
          have HSM : Hid (S3 ++ pairA2 (envP p) x f (g + 1 - (f + 1)) = S3 ++ pairA2 (envP p) x f (g - (f + 1))) := by unfold Hid; rw [pairA2_snoc hfg, HPB, if_neg (by decide), List.append_nil]
          rw [← HSM.out] at HL HN
          clear HSM HPB
          go_wp2_with fail
          go_roundw
          case rel => exact ⟨g + 1, n3, gc, GA, by omega, by omega, by go_num, rfl, by omega, HL, HN, HAL, HR⟩
          case measure => simp [intOf]; omega
         | false =>
          cases tB with
          | true =>
           have HPB : pairB (envP p) x f g = false := HPP.out
           have HSM : Hid (S3 ++ pairA2 (envP p) x f (g + 1 - (f + 1)) = S3 ++ pairA2 (envP p) x f (g - (f + 1))) := by unfold Hid; rw [pairA2_snoc hfg, HPB, if_neg (by decide), List.append_nil]
           rw [← HSM.out] at HL HN
           clear HSM HPB
           go_wp2_with fail
           go_roundw
           case rel => exact ⟨g + 1, n3, gc, GA, by omega, by omega, by go_num, rfl, by omega, HL, HN, HAL, HR⟩
           case measure => simp [intOf]; omega
          | false =>
           obtain ⟨wc, hwc⟩ : ∃ y, y = wr.alloc (.cells #[.int .i64 (f : Int), .int .i64 (g : Int)] 3) := ⟨_, rfl⟩
           have gc' : Grew wr wc := by rw [hwc]; exact (Grew.refl wr).alloc _
           have HII : Hid (Ints wc (some ⟨wr.heap.size, 0, none⟩) 2 2 [(f : Int), (g : Int)]) := ⟨rfl, by rw [hwc]; exact builtS (w := wr) (t := 3) 1 2 #[.int .i64 (f : Int), .int .i64 (g : Int)] _ rfl rfl (by decide)⟩
           have HRc := Lib.hid (HR.out.trans gc')
           have HLc := Lib.hid (HL.out.grew gc')
           have HALc := Lib.hid (HAL.out.grew gc')
           clear gc' HL HAL HR
           go_wp2_with fail
           rw [← hwc]
           clear hwc
           refine (bad56 (cb := cb) (X3.out.grew HRc.out) ((HKB.out.grew HRc.out).cell rfl) (HCK.out.grew HRc.out) HOK.out hxt HII.out (fun z hz => by
            rcases List.mem_cons.1 hz with e | hz
            ·omega
            ·rw [List.mem_singleton.1 hz]; omega) (by omega)).mono ?_
           rintro r w7 ⟨rfl, g7⟩
           obtain ⟨tt, htt⟩ : ∃ z, violP p x (idxF 0 (asgL p.dn x [(f : Int), (g : Int)]) x) = z := ⟨_, rfl⟩
           rw [htt] at HPP ⊢
           have HR := Lib.hid (HRc.out.trans g7)
           have HL := Lib.hid (HLc.out.grew g7)
           have HAL := Lib.hid (HALc.out.grew g7)
           clear htt g7 HRc HLc HALc HII ca c1 c2 i1 i2 i3 i4 i5 i6 v3 e1
           cases tt with
           | false =>
            have HPB : pairB (envP p) x f g = false := HPP.out
            have HSM : Hid (S3 ++ pairA2 (envP p) x f (g + 1 - (f + 1)) = S3 ++ pairA2 (envP p) x f (g - (f + 1))) := by unfold Hid; rw [pairA2_snoc hfg, HPB, if_neg (by decide), List.append_nil]
            rw [← HSM.out] at HL HN
            clear HSM HPB
            go_wp2_with fail
            go_roundw
            case rel => exact ⟨g + 1, n3, gc, GA, by omega, by omega, by go_num, rfl, by omega, HL, HN, HAL, HR⟩
            case measure => simp [intOf]; omega
           | true =>
            have HPB : Hid (pairB (envP p) x f g = true) := HPP.out
            go_wp2_with fail
            refine (not58 _ _ _).mono ?_
            rintro r w8 ⟨rfl, g8⟩
            have HR8 := Lib.hid (HR.out.trans g8)
            have HL8 := Lib.hid (HL.out.grew g8)
            have HAL8 := Lib.hid (HAL.out.grew g8)
            clear g8 HR HL HAL
            go_wp2_with fail
            refine (not58 _ _ _).mono ?_
            rintro r w9 ⟨rfl, g9⟩
            obtain ⟨wd, hwd⟩ : ∃ y, y = w9.alloc (.cells #[.int .i64 (f : Int), .int .i64 (x : Int), .bool false, .int .i64 (g : Int), .int .i64 (x : Int), .bool false] 122) := ⟨_, rfl⟩
            have gd : Grew w9 wd := by rw [hwd]; exact (Grew.refl w9).alloc _
            have HRC : Hid (Recs encL 3 wd (some ⟨w9.heap.size, 0, none⟩) 2 2 (bad2 x f g).cl) := by unfold Hid; rw [hwd]; exact Recs.built encL_ok _ rfl rfl (by omega)
            have gg := g9.trans gd
            have HL9 := Lib.hid (HL8.out.grew gg)
            have HAL9 := Lib.hid (HAL8.out.grew gg)
            have HR9 := Lib.hid (HR8.out.trans gg)
            clear g9 gd gg HL8 HAL8 HR8
            go_wp2_with fail
            rw [← hwd]
            clear hwd
            refine (denial57 (base := base) HRC.out (by omega) (by have h1 := HR9.out.le; have h2 := HBE.out; omega)).mono ?_
            rintro r w10 ⟨A10, c10, rfl, own10, g10⟩
            have HO10 := Lib.hid own10
            have HL10 := Lib.hid (HL9.out.grew g10)
            have HAL10 := Lib.hid (HAL9.out.grew g10)
            have HG10 := Lib.hid (HR9.out.trans g10)
            have HSN : Hid (S3 ++ pairA2 (envP p) x f (g + 1 - (f + 1)) = (S3 ++ pairA2 (envP p) x f (g - (f + 1))) ++ [bad2 x f g]) := by unfold Hid; rw [pairA2_snoc hfg, HPB.out, if_pos rfl, List.append_assoc]
            clear own10 g10 HL9 HAL9 HR9 HRC HPB
            obtain ⟨wy, hwy⟩ : ∃ y, y = w10.alloc (.cells #[.slice A10 2 c10, .int .i64 3, .slice none 0 0] 71) := ⟨_, rfl⟩
            have gy : Grew w10 wy := by rw [hwy]; exact (Grew.refl w10).alloc _
            have BQ : Hid (Sl wy 3 (some ⟨w10.heap.size, 0, none⟩) 1 1 (encQ ⟨⟨A10, 2, c10⟩, 3, ⟨none, 0, 0⟩⟩)) := by unfold Hid; rw [hwy]; exact builtS (w := w10) (t := 71) 3 1 #[.slice A10 2 c10, .int .i64 3, .slice none 0 0] _ rfl rfl (by decide)
            obtain ⟨xs, hxs⟩ := (HL10.out.grew gy).row HN.out
            have HOV := Lib.hid hxs
            have HGY := Lib.hid gy
            have HBS : Hid (base ≤ wy.heap.size) := by
             have h1 := HBE.out
             have h2 := HG10.out.le
             have h3 := gy.le
             unfold Hid
             omega
            clear gy hxs
            go_upto_region 27 with (at_builtin; rw [← hwy]; refine wpList_append_sl _ rfl (.tmp 119) (.tmp 128) 39 rfl base 71 i0 (.agg #[.slice none 0 0, .int .i64 0, .slice none 0 0]) 3 56 Tryz.underlying39 hi0 hz0 hz1 hz2 rfl (by decide) (.slice GA n3 gc) n3 _ rfl HOV.out (some ⟨w10.heap.size, 0, none⟩) 1 1 _ rfl BQ.out (fun u hu => encQ_ok.one _ u hu) (by unfold maxLen; omega) (by omega) HBS.out ?_; intro v7 w7 own7 hg7 hat7; obtain ⟨A7, c7, rfl⟩ := own_form own7)
            have HL7 : Hid (LogAt base (fun _ => True) w7 (.slice A7 (n3 + 1) c7) (S3 ++ pairA2 (envP p) x f (g + 1 - (f + 1)))) := by unfold Hid; rw [HSN.out]; exact HL10.out.push HN.out HO10.out (cl := (bad2 x f g).cl) rfl HGY.out hg7 (fun ys hy => by rw [own_inj hy HOV.out]; exact own7)
            have HG7 : Hid (Grew w3 w7) := (HG10.out.trans HGY.out).grown hg7 (fun j hj => by
             have h1 := (HOV.out.lt j hj).1
             have h2 := HBE.out
             omega)
            have HN7 : Hid ((S3 ++ pairA2 (envP p) x f (g + 1 - (f + 1))).length = n3 + 1) := by unfold Hid; rw [HSN.out, List.length_append, HN.out]; rfl
            have HAL7 : Hid (AlB w7 base ra p.wn p.dn gb (aloneB (envP p)) p.wn cs) := (HAL10.out.grew HGY.out).log HOV.out hg7
            clear hwy own7 hg7 hat7 HOV HGY HBS BQ HAL10
            go_wp2_with fail
            go_roundw
            case rel => exact ⟨g + 1, n3 + 1, c7, A7, by omega, by omega, by go_num, rfl, by omega, HL7, HN7, HAL7, HG7⟩
            case measure => simp [intOf]; omega
        ·obtain rfl : g = p.dn := by omega
         have e1 : decide ((p.dn : Int) < (p.dn : Int)) = false := decide_eq_false (by omega)
         have HL7 : Hid (LogAt base (fun _ => True) wr (.slice GA n3 gc) (S2 ++ pairA1 (envP p) x (f + 1))) := by
          unfold Hid; rw [pairA1_snoc, ← List.append_assoc, HS3.out]; exact HL.out
         have HN7 : Hid ((S2 ++ pairA1 (envP p) x (f + 1)).length = n3) := by
          unfold Hid; rw [pairA1_snoc, ← List.append_assoc, HS3.out]; exact HN.out
         clear HL HN
         go_wp2_with fail
         go_roundw
         case rel => exact ⟨f + 1, n3, gc, GA, by omega, by go_num, rfl, by omega, HL7, HN7, HAL, HR⟩
         case measure => simp [intOf]; omega
      ·obtain rfl : f = p.dn := by omega
       have e1 : decide ((p.dn : Int) < (p.dn : Int)) = false := decide_eq_false (by omega)
       have HL7 : Hid (LogAt base (fun _ => True) wr (.slice GA n2 gc) (S1 ++ pairA (envP p) (x + 1))) := by
        unfold Hid; rw [pairA_snoc, ← List.append_assoc, HS2.out]; exact HL.out
       have HN7 : Hid ((S1 ++ pairA (envP p) (x + 1)).length = n2) := by
        unfold Hid; rw [pairA_snoc, ← List.append_assoc, HS2.out]; exact HN.out
       clear HL HN
       go_wp2_with fail
       go_roundw
       case rel => exact ⟨x + 1, n2, gc, GA, by omega, by go_num, rfl, by omega, HL7, HN7, HAL, HR⟩
       case measure => simp [intOf]; omega
    ·obtain rfl : x = p.wn := by omega
     have e1 : decide ((p.wn : Int) < (p.wn : Int)) = false := decide_eq_false (by omega)
     rw [← HS1.out, ← HS0.out] at HL HN
     have HGF := Lib.hid (HG3.out.trans HR.out)
     go_wp2
     go_ret
     exact ⟨GA, n1, gc, base, rfl, HL.out, HN.out, by omega, HGF.out⟩
end Go.Proofs.YtnnbibmmofnkdaaGreat
