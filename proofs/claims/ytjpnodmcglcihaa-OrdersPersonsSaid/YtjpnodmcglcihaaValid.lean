/-
  Valid lists of orders: orders.Valid.
-/
import Derived.Test.YtjpnodmcglcihaaForm
import Derived.Test.YtjpnodmcglcihaaValP
import Derived.Test.YtjpnodmcglcihaaReg
import Derived.Laws.StructEq
import Derived.Deep.Cut
import Derived.WalkSpells
import Derived.WalkLawsBesides
import Derived.KernelRfl
namespace Go.Proofs.Ytjpnodmcglcihaa
open Go.RowKit Go.Proofs WageMem WageOrd WageRec WageMap WageReg

theorem under24 : Try.prog.underlying 24 = some (.struct (Try.prog.fieldsOf 24)) := by kernel_rfl
theorem size24 : (Try.prog.info? 24).map (·.size) = some 8 := by kernel_rfl
theorem load24 {w : World} {b o : Nat} {x : Ord} (h : w.rangeAt b o (oe x)) : (Instr.loadAt 24 (.pointer (some ⟨b, o, none⟩))).run Try.prog w = .ok (.agg #[.int .i64 x.n, .string x.p, .string x.c, .int .i64 x.r, .int .i64 x.k, .int .i64 x.f, .int .i64 x.m, .bool x.fam]) w :=
  run_loadAt_mid w b o 24 (oe x) _ h under24 rfl size24
theorem cells24 {w : World} {b o : Nat} {x : Ord} (h : w.rangeAt b o (oe x)) : w.cell? ⟨b, o, none⟩ = some (.int .i64 x.n) ∧ w.cell? ⟨b, o + 1, none⟩ = some (.string x.p) ∧ w.cell? ⟨b, o + 2, none⟩ = some (.string x.c) ∧ w.cell? ⟨b, o + 3, none⟩ = some (.int .i64 x.r) ∧ w.cell? ⟨b, o + 4, none⟩ = some (.int .i64 x.k) ∧ w.cell? ⟨b, o + 5, none⟩ = some (.int .i64 x.f) ∧ w.cell? ⟨b, o + 6, none⟩ = some (.int .i64 x.m) ∧ w.cell? ⟨b, o + 7, none⟩ = some (.bool x.fam) :=
  ⟨h 0 _ rfl, h 1 _ rfl, h 2 _ rfl, h 3 _ rfl, h 4 _ rfl, h 5 _ rfl, h 6 _ rfl, h 7 _ rfl⟩
theorem cells24n {w : World} {b : Nat} {x : Ord} (h : w.rangeAt b 0 (oe x)) : w.cell? ⟨b, 0, none⟩ = some (.int .i64 x.n) ∧ w.cell? ⟨b, 1, none⟩ = some (.string x.p) ∧ w.cell? ⟨b, 2, none⟩ = some (.string x.c) ∧ w.cell? ⟨b, 3, none⟩ = some (.int .i64 x.r) ∧ w.cell? ⟨b, 4, none⟩ = some (.int .i64 x.k) ∧ w.cell? ⟨b, 5, none⟩ = some (.int .i64 x.f) ∧ w.cell? ⟨b, 6, none⟩ = some (.int .i64 x.m) ∧ w.cell? ⟨b, 7, none⟩ = some (.bool x.fam) := by
  have := cells24 h
  simpa only [Nat.zero_add] using this
theorem key3 : KeyOk Try.prog 3 (fun n : Int => Value.int .i64 n) := int_key (by kernel_rfl)
theorem key9 : KeyOk Try.prog 9 (fun n : ByteArray => Value.string n) := string_key (by kernel_rfl)
theorem zero24 (w : World) : (zeroValue 24).run Try.prog w = .ok (.agg #[.int .i64 0, .string ByteArray.empty, .string ByteArray.empty, .int .i64 0, .int .i64 0, .int .i64 0, .int .i64 0, .bool false]) w := by kernel_rfl
theorem zero3 (w : World) : (zeroValue 3).run Try.prog w = .ok (.int .i64 0) w := by kernel_rfl
theorem map33 : Try.prog.underlying 33 = some (.map 3 24) := by kernel_rfl
theorem map44 : Try.prog.underlying 44 = some (.map 9 3) := by kernel_rfl
/-- A map from numbers to orders, from persons to numbers. -/
abbrev MapO := MapIs (fun n : Int => Value.int .i64 n) ov
abbrev MapC := MapIs (fun n : ByteArray => Value.string n) (fun n : Int => Value.int .i64 n)
theorem ov_eq (x : Ord) : ov x = .agg #[.int .i64 x.n, .string x.p, .string x.c, .int .i64 x.r, .int .i64 x.k, .int .i64 x.f, .int .i64 x.m, .bool x.fam] := rfl

theorem cnt_lookup {W : World} {b k : Nat} {l : List Ord} (h : MapC W b (countM l k)) (p : ByteArray) : (Instr.lookup 44 (.map (some b)) (.string p) false).run Try.prog W = .ok (.int .i64 (cnt l p k : Int)) W := by
  have := h.lookup key9 map44 (zero3 W) p false
  rw [this, ← countM_find l p k]
  cases alFind p (countM l k) <;> rfl

/-- A slice of orders: its cells; each string's length. -/
def Wf (l : List Ord) : Prop := ∀ x ∈ l, x.p.size ≤ maxLen ∧ x.c.size ≤ maxLen ∧ (-9223372036854775808 ≤ x.n ∧ x.n ≤ 9223372036854775807) ∧ (-9223372036854775808 ≤ x.k ∧ x.k ≤ 9223372036854775807)
def Ords (w : World) (A : Option Addr) (n c : Nat) (l : List Ord) : Prop := Recs oe 8 w A n c l ∧ Wf l
theorem Ords.grew {w w' : World} {A : Option Addr} {n c : Nat} {l : List Ord} (h : Ords w A n c l) (g : Grew w w') : Ords w' A n c l := ⟨h.1.grew g, h.2⟩
theorem str_eq (a b : ByteArray) : (a.toList == b.toList) = decide (a = b) := by
  rw [← beq_toListBytes, Bool.eq_iff_iff, Go.MapKept.bytes_beq, decide_eq_true_iff]

set_option maxRecDepth 100000 in
set_option maxHeartbeats 8000000 in
theorem valid_any (A : Option Addr) (n c : Nat) (l : List Ord) (w : World) (h : Ords w A n c l) :
    Calls Try.prog 14 #[.slice A n c] w fun r w' => r = .returned (.bool (validB l)) ∧ Grew w w' := by
  have HH := Lib.hid h
  have hn := h.1.le
  have HL := Lib.hid h.1.1
  have hmm := @run_makeMap Try.prog
  clear h
  by_cases hbig : 400 < n
  · have q1 : decide (400 < (n : Int)) = true := decide_eq_true (by omega)
    have HV : Hid (validB l = false) := by unfold Hid validB; rw [HL.out, decide_eq_false (by omega)]; rfl
    go_enter Try.func14, Try.ntmps14
    go_wp2_with fail
    go_ret
    exact ⟨ret_bool HV.out.symm, Grew.refl _⟩
  · have q1 : decide (400 < (n : Int)) = false := decide_eq_false (by omega)
    have HVF : okB l n = false → Hid (validB l = false) := fun h => by unfold Hid validB; rw [HL.out, h]; simp
    have HVT : okB l n = true → Hid (validB l = true) := fun h => by unfold Hid validB; rw [HL.out, h, decide_eq_true (by omega)]; rfl
    have HF := Lib.hid HVF
    have HT := Lib.hid HVT
    clear HVF HVT
    obtain ⟨b1, hb1⟩ : ∃ b, b = w.heap.size := ⟨_, rfl⟩
    have M1 := MapIs.made (ek := fun n : Int => Value.int .i64 n) (ev := ov) w
    have M2 := MapIs.made (ek := fun n : ByteArray => Value.string n) (ev := fun n : Int => Value.int .i64 n) (w.alloc (.map #[] 0))
    obtain ⟨wm, hwm⟩ : ∃ x, x = (w.alloc (.map #[] 0)).alloc (.map #[] 0) := ⟨_, rfl⟩
    have gm1 : Grew (w.alloc (.map #[] 0)) wm := by rw [hwm]; exact (Grew.refl _).alloc _
    have gm : Grew w wm := ((Grew.refl w).alloc _).trans gm1
    replace M1 := M1.grew gm1
    rw [← hwm] at M2
    have sz2 : (w.alloc (.map #[] 0)).heap.size = w.heap.size + 1 := by simp
    rw [sz2, ← hb1] at M2
    rw [← hb1] at M1
    have hle1 : w.heap.size ≤ b1 := by omega
    have HM1 := Lib.hid M1
    have HM2 := Lib.hid M2
    have GM := Lib.hid gm
    clear M1 M2 gm1 gm sz2
    go_enter Try.func14, Try.ntmps14
    go_wp2_with fail
    rw [← hwm, ← hb1]
    clear hwm hb1
    go_loopw [16] (fun i wr => ∃ k : Nat, k ≤ n ∧ i = .int .i64 k ∧ Hid (okB l k = true) ∧ Hid (MapO wr b1 (firstM l k)) ∧ Hid (MapC wr (b1 + 1) (countM l k)) ∧ Grew w wr) (fun i _ => n - (intOf i).toNat)
    case atStart => exact ⟨0, Nat.zero_le _, rfl, rfl, HM1, HM2, GM.out⟩
    case round =>
      clear HM1 HM2 GM
      obtain ⟨k, hk, rfl, HOK, HM1, HM2, hg⟩ := hrel
      have hlb1 := HM1.out.lt
      have hlb2 := HM2.out.lt
      by_cases hlt : k < n
      · obtain ⟨b, o, x, rfl, hx, hr⟩ := (HH.out.1.grew hg).at_ oe_ok hlt
        have hw := HH.out.2 x (List.mem_of_getElem? hx)
        have HX := Lib.hid hx
        have HS := Lib.hid hw
        have bk := hw.2.2.2
        have i0 : (0 : Int) ≤ (k : Int) := by omega
        have i1 : (k : Int) < (n : Int) := by omega
        obtain ⟨c0, c1, c2, c3, c4, c5, c6, c7⟩ := cells24 hr
        obtain ⟨wa, hwa⟩ : ∃ y, y = wr.alloc (.cells #[.int .i64 x.n, .string x.p, .string x.c, .int .i64 x.r, .int .i64 x.k, .int .i64 x.f, .int .i64 x.m, .bool x.fam] 24) := ⟨_, rfl⟩
        have ga : Grew wr wa := by rw [hwa]; exact (Grew.refl wr).alloc _
        have HR : Hid (wa.drew.rangeAt wr.heap.size 0 (oe x)) := by rw [hwa]; exact range_new wr (oe x) 24
        have GWA := Lib.hid ga.drew
        clear hx hw hr
        go_upto_region 8 with (fail)
        rw [← hwa]
        clear hwa c0 c1 c2 c3 c4 c5 c6 c7
        cases hf : formB x with
        | false =>
          have HFM := Lib.hid hf
          have HB := HF.out (okB_bad HX.out (by unfold goodB; rw [hf]; rfl) hlt)
          clear hf
          have hC : ∀ w', Grew wa.drew w' → w'.cell? ⟨wr.heap.size, 0, none⟩ = some (.int .i64 x.n) ∧ w'.cell? ⟨wr.heap.size, 1, none⟩ = some (.string x.p) ∧ w'.cell? ⟨wr.heap.size, 2, none⟩ = some (.string x.c) ∧ w'.cell? ⟨wr.heap.size, 3, none⟩ = some (.int .i64 x.r) ∧ w'.cell? ⟨wr.heap.size, 4, none⟩ = some (.int .i64 x.k) ∧ w'.cell? ⟨wr.heap.size, 5, none⟩ = some (.int .i64 x.f) ∧ w'.cell? ⟨wr.heap.size, 6, none⟩ = some (.int .i64 x.m) ∧ w'.cell? ⟨wr.heap.size, 7, none⟩ = some (.bool x.fam) := fun w' g' => cells24n (range_grew HR.out g')
          refine wp_region_seq (by kernel_rfl) Grew.refl (fun _ _ _ => Grew.trans) (fun _ _ _ _ _ h => h) (by kernel_rfl) ?_
          repeat (first
            | (refine TakeAll.pure (v := ?_) (by rfl) ?_ ?_; rotate_left; (intro w' g'; obtain ⟨c0, c1, c2, c3, c4, c5, c6, c7⟩ := hC w' g'; go_simp; first | done | with_reducible rfl); (simp only [Act.put, List.setIfInBounds_toArray, List.set_cons_zero, List.set_cons_succ]))
            | (refine TakeAll.skip (by rfl) ?_; (simp only [Act.put, List.setIfInBounds_toArray, List.set_cons_zero, List.set_cons_succ])))
          refine TakeAll.call (by rfl) 20 _ (fun _ => by go_simp; first | done | rfl) (fun w' g' => formed_val HFM.out HS.out.1 HS.out.2.1 w') ?_
          simp only [Act.put, List.setIfInBounds_toArray, List.set_cons_zero, List.set_cons_succ]
          repeat (first
            | (refine TakeAll.pure (v := ?_) (by rfl) ?_ ?_; rotate_left; (intro w' g'; obtain ⟨c0, c1, c2, c3, c4, c5, c6, c7⟩ := hC w' g'; go_simp; first | done | with_reducible rfl); (simp only [Act.put, List.setIfInBounds_toArray, List.set_cons_zero, List.set_cons_succ]))
            | (refine TakeAll.skip (by rfl) ?_; (simp only [Act.put, List.setIfInBounds_toArray, List.set_cons_zero, List.set_cons_succ])))
          refine TakeAll.nil ?_
          intro w5 g5
          have gE := (hg.trans ga.drew).trans g5
          clear hC
          go_wp2_with fail
          go_ret
          exact ⟨ret_bool HB.out.symm, gE⟩
        | true =>
          have HFM := Lib.hid hf
          clear hf
          have hpc : (k = 0 ∧ Hid (prevB l k x = true)) ∨ ∃ y, 0 < k ∧ wa.drew.cell? ⟨b, o + (k - 1) * 8 + 4, none⟩ = some (.int .i64 y) ∧ Hid (prevB l k x = decide (y ≤ x.k)) := by
            by_cases hk0 : k = 0
            · exact .inl ⟨hk0, by subst hk0; exact prev_zero⟩
            · obtain ⟨b', o', y, ey, hy, hry⟩ := (HH.out.1.grew hg).at_ oe_ok (show k - 1 < n by omega)
              injection ey with ey
              injection ey with ey ey2
              subst ey ey2
              exact .inr ⟨y.k, by omega, ga.drew.cell (hry 4 _ rfl), prev_at (by omega) hy⟩
          have hC : ∀ w', Grew wa.drew w' → w'.cell? ⟨wr.heap.size, 0, none⟩ = some (.int .i64 x.n) ∧ w'.cell? ⟨wr.heap.size, 1, none⟩ = some (.string x.p) ∧ w'.cell? ⟨wr.heap.size, 2, none⟩ = some (.string x.c) ∧ w'.cell? ⟨wr.heap.size, 3, none⟩ = some (.int .i64 x.r) ∧ w'.cell? ⟨wr.heap.size, 4, none⟩ = some (.int .i64 x.k) ∧ w'.cell? ⟨wr.heap.size, 5, none⟩ = some (.int .i64 x.f) ∧ w'.cell? ⟨wr.heap.size, 6, none⟩ = some (.int .i64 x.m) ∧ w'.cell? ⟨wr.heap.size, 7, none⟩ = some (.bool x.fam) := fun w' g' => cells24n (range_grew HR.out g')
          rcases hpc with ⟨hk0, HPV⟩ | ⟨y, hk0, d4, HPV⟩
          · have t1 : decide (0 < (k : Int)) = false := decide_eq_false (by omega)
            have t2 : decide (0 < k) = false := decide_eq_false (by omega)
            clear hk0
            refine wp_region_seq (by kernel_rfl) Grew.refl (fun _ _ _ => Grew.trans) (fun _ _ _ _ _ h => h) (by kernel_rfl) ?_
            repeat (first
              | (refine TakeAll.pure (v := ?_) (by rfl) ?_ ?_; rotate_left; (intro w' g'; obtain ⟨c0, c1, c2, c3, c4, c5, c6, c7⟩ := hC w' g'; go_simp; first | done | with_reducible rfl); (simp only [Act.put, List.setIfInBounds_toArray, List.set_cons_zero, List.set_cons_succ]))
              | (refine TakeAll.skip (by rfl) ?_; (simp only [Act.put, List.setIfInBounds_toArray, List.set_cons_zero, List.set_cons_succ])))
            refine TakeAll.call (by rfl) 20 _ (fun _ => by go_simp; first | done | rfl) (fun w' g' => formed_val HFM.out HS.out.1 HS.out.2.1 w') ?_
            simp only [Act.put, List.setIfInBounds_toArray, List.set_cons_zero, List.set_cons_succ]
            repeat (first
              | (refine TakeAll.pure (v := ?_) (by rfl) ?_ ?_; rotate_left; (intro w' g'; obtain ⟨c0, c1, c2, c3, c4, c5, c6, c7⟩ := hC w' g'; go_simp; first | done | with_reducible rfl); (simp only [Act.put, List.setIfInBounds_toArray, List.set_cons_zero, List.set_cons_succ]))
              | (refine TakeAll.skip (by rfl) ?_; (simp only [Act.put, List.setIfInBounds_toArray, List.set_cons_zero, List.set_cons_succ])))
            refine TakeAll.nil ?_
            intro w5 g5
            have gE := (hg.trans ga.drew).trans g5
            obtain ⟨c0, c1, c2, c3, c4, c5, c6, c7⟩ := hC w5 g5
            clear hC t1 t2 ga HR
            replace HM1 := Lib.hid (HM1.out.grew ((GWA.out).trans g5))
            replace HM2 := Lib.hid (HM2.out.grew ((GWA.out).trans g5))
            clear GWA g5 hg
            cases hfd : alFind x.n (firstM l k) with
            | none =>
              have hlk := HM1.out.lookup key3 map33 (zero24 _) x.n true
              rw [hfd] at hlk
              simp only [if_true, Option.map_none, Option.getD_none, Option.isSome_none] at hlk
              obtain ⟨wb, hwb⟩ : ∃ y, y = w5.alloc (.cells #[.int .i64 0, .string ByteArray.empty, .string ByteArray.empty, .int .i64 0, .int .i64 0, .int .i64 0, .int .i64 0, .bool false] 24) := ⟨_, rfl⟩
              have gb : Grew w5 wb := by rw [hwb]; exact (Grew.refl w5).alloc _
              obtain ⟨hn1, hn2⟩ := firstM_new HX.out hfd
              have HFT := Lib.hid (fits_new hfd)
              obtain ⟨q, hq⟩ : ∃ q : Int, (cnt l x.p k : Int) = q := ⟨_, rfl⟩
              have hqb : 0 ≤ q ∧ q ≤ 400 := by have := cnt_le l x.p k; omega
              obtain ⟨wc, up1, M1, g1⟩ := (HM1.out.grew gb).update key3 map33 x.n x
              rw [← hn1] at M1
              have M2 := (HM2.out.grew gb).kept g1 (by simp)
              have lk2 := cnt_lookup M2 x.p
              rw [hq] at lk2
              obtain ⟨wd, up2, M2', g2⟩ := M2.update key9 map44 x.p (q + 1)
              rw [hq] at hn2
              rw [← hn2] at M2'
              have lk3 := cnt_lookup M2' x.p
              obtain ⟨z, hz⟩ : ∃ z : Int, (cnt l x.p (k + 1) : Int) = z := ⟨_, rfl⟩
              rw [hz] at lk3
              have gF : Grew w wd := ((gE.trans gb).grown g1 (fun j hj => by injection hj with hj; omega)).grown g2 (fun j hj => by injection hj with hj; omega)
              have HM1' := Lib.hid (M1.kept g2 (by simp))
              have HM2' := Lib.hid M2'
              have a0 := gb.cell c0
              have a1 := gb.cell c1
              have a2 := gb.cell c2
              have a3 := gb.cell c3
              have a4 := gb.cell c4
              have a5 := gb.cell c5
              have a6 := gb.cell c6
              have a7 := gb.cell c7
              have e1 := g1.cell a1 (by simp; omega)
              have f1 := g2.cell e1 (by simp; omega)
              have HZ := Lib.hid hz
              rw [ov_eq] at up1
              clear hfd hn1 hn2 hq M1 M2 M2' g1 g2 gb HM1 HM2 hz
              by_cases h16 : 16 < z
              · have q16 : decide (16 < z) = true := decide_eq_true h16
                have HB := HF.out (okB_bad HX.out (by unfold goodB; rw [decide_eq_false (show ¬ cnt l x.p (k + 1) ≤ 16 by have := HZ.out; omega)]; simp) hlt)
                go_upto_region 11 with (fail)
                rw [← hwb]
                clear hwb hlk
                go_wp2_with fail
                go_ret
                exact ⟨ret_bool HB.out.symm, gF⟩
              · have q16 : decide (16 < z) = false := decide_eq_false h16
                have HOK' : Hid (okB l (k + 1) = true) := by unfold Hid; rw [okB_succ HX.out, HOK.out, good_of HFM.out HPV.out HFT.out (by have := HZ.out; omega)]; rfl
                go_upto_region 11 with (fail)
                rw [← hwb]
                clear hwb hlk
                go_wp2_with fail
                go_roundw
                case rel => exact ⟨k + 1, by omega, by go_num, HOK', HM1', HM2', gF⟩
                case measure => simp [intOf]; omega
            | some y =>
              have hlk := HM1.out.lookup key3 map33 (zero24 _) x.n true
              rw [hfd] at hlk
              simp only [if_true, Option.map_some, Option.getD_some, Option.isSome_some] at hlk
              rw [ov_eq] at hlk
              obtain ⟨wb, hwb⟩ : ∃ z, z = w5.alloc (.cells #[.int .i64 y.n, .string y.p, .string y.c, .int .i64 y.r, .int .i64 y.k, .int .i64 y.f, .int .i64 y.m, .bool y.fam] 24) := ⟨_, rfl⟩
              have gb : Grew w5 wb := by rw [hwb]; exact (Grew.refl w5).alloc _
              have hry : wb.rangeAt w5.heap.size 0 (oe y) := by rw [hwb]; exact range_new w5 (oe y) 24
              obtain ⟨-, y1, y2, -, -, -, -, -⟩ := cells24n hry
              obtain ⟨hn1, hn2⟩ := firstM_old HX.out hfd
              have HFT := Lib.hid (fits_of HOK.out hfd)
              have M1 := HM1.out.grew gb
              have M2 := HM2.out.grew gb
              rw [← hn1] at M1
              rw [← hn2] at M2
              have lk3 := cnt_lookup M2 x.p
              obtain ⟨z, hz⟩ : ∃ z : Int, (cnt l x.p (k + 1) : Int) = z := ⟨_, rfl⟩
              rw [hz] at lk3
              have gF : Grew w wb := gE.trans gb
              have HM1' := Lib.hid M1
              have HM2' := Lib.hid M2
              have a0 := gb.cell c0
              have a1 := gb.cell c1
              have a2 := gb.cell c2
              have HZ := Lib.hid hz
              clear hfd hn1 hn2 M1 M2 gb HM1 HM2 hz hry
              by_cases hp : y.p = x.p
              · have qp : (y.p.toList == x.p.toList) = true := by rw [str_eq]; exact decide_eq_true hp
                by_cases hcr : y.c = x.c
                · have qc : (y.c.toList == x.c.toList) = true := by rw [str_eq]; exact decide_eq_true hcr
                  have HFT' : Hid (fitsB l k x = true) := by unfold Hid; rw [HFT.out, decide_eq_true hp, decide_eq_true hcr]; rfl
                  clear hp hcr HFT
                  by_cases h16 : 16 < z
                  · have q16 : decide (16 < z) = true := decide_eq_true h16
                    have HB := HF.out (okB_bad HX.out (by unfold goodB; rw [decide_eq_false (show ¬ cnt l x.p (k + 1) ≤ 16 by have := HZ.out; omega)]; simp) hlt)
                    go_upto_region 11 with (fail)
                    rw [← hwb]
                    clear hwb hlk
                    go_wp2_with fail
                    go_ret
                    exact ⟨ret_bool HB.out.symm, gF⟩
                  · have q16 : decide (16 < z) = false := decide_eq_false h16
                    have HOK' : Hid (okB l (k + 1) = true) := by unfold Hid; rw [okB_succ HX.out, HOK.out, good_of HFM.out HPV.out HFT'.out (by have := HZ.out; omega)]; rfl
                    go_upto_region 11 with (fail)
                    rw [← hwb]
                    clear hwb hlk
                    go_wp2_with fail
                    go_roundw
                    case rel => exact ⟨k + 1, by omega, by go_num, HOK', HM1', HM2', gF⟩
                    case measure => simp [intOf]; omega
                · have qc : (y.c.toList == x.c.toList) = false := by rw [str_eq]; exact decide_eq_false hcr
                  have HB := HF.out (okB_bad HX.out (by unfold goodB; rw [HFT.out, decide_eq_false hcr]; simp) hlt)
                  clear hp hcr HFT
                  go_upto_region 11 with (fail)
                  rw [← hwb]
                  clear hwb hlk
                  go_wp2_with fail
                  go_ret
                  exact ⟨ret_bool HB.out.symm, gF⟩
              · have qp : (y.p.toList == x.p.toList) = false := by rw [str_eq]; exact decide_eq_false hp
                have HB := HF.out (okB_bad HX.out (by unfold goodB; rw [HFT.out, decide_eq_false hp]; simp) hlt)
                clear hp HFT
                go_upto_region 11 with (fail)
                rw [← hwb]
                clear hwb hlk
                go_wp2_with fail
                go_ret
                exact ⟨ret_bool HB.out.symm, gF⟩
          · have t1 : decide (0 < (k : Int)) = true := decide_eq_true (by omega)
            have t2 : decide (0 < k) = true := decide_eq_true (by omega)
            have m1 : IntKind.i64.wrap ((k : Int) - 1) = (k : Int) - 1 := IntWalk.i64_in _ (by omega)
            have m2 : ((k : Int) - 1).toNat = k - 1 := by omega
            have m3 : (0 : Int) ≤ (k : Int) - 1 := by omega
            have m3' : (1 : Int) ≤ (k : Int) := by omega
            have m4 : (k : Int) - 1 < (n : Int) := by omega
            by_cases hlo : x.k < y
            · have q3 : decide (x.k < y) = true := decide_eq_true hlo
              have HB := HF.out (okB_bad HX.out (by unfold goodB; rw [HPV.out, decide_eq_false (by omega)]; simp) hlt)
              refine wp_region_seq (by kernel_rfl) Grew.refl (fun _ _ _ => Grew.trans) (fun _ _ _ _ _ h => h) (by kernel_rfl) ?_
              repeat (first
                | (refine TakeAll.pure (v := ?_) (by rfl) ?_ ?_; rotate_left; (intro w' g'; obtain ⟨c0, c1, c2, c3, c4, c5, c6, c7⟩ := hC w' g'; have d4' := g'.cell d4; go_simp; first | done | with_reducible rfl); (simp only [Act.put, List.setIfInBounds_toArray, List.set_cons_zero, List.set_cons_succ]))
                | (refine TakeAll.skip (by rfl) ?_; (simp only [Act.put, List.setIfInBounds_toArray, List.set_cons_zero, List.set_cons_succ])))
              refine TakeAll.call (by rfl) 20 _ (fun _ => by go_simp; first | done | rfl) (fun w' g' => formed_val HFM.out HS.out.1 HS.out.2.1 w') ?_
              simp only [Act.put, List.setIfInBounds_toArray, List.set_cons_zero, List.set_cons_succ]
              repeat (first
                | (refine TakeAll.pure (v := ?_) (by rfl) ?_ ?_; rotate_left; (intro w' g'; obtain ⟨c0, c1, c2, c3, c4, c5, c6, c7⟩ := hC w' g'; have d4' := g'.cell d4; go_simp; first | done | with_reducible rfl); (simp only [Act.put, List.setIfInBounds_toArray, List.set_cons_zero, List.set_cons_succ]))
                | (refine TakeAll.skip (by rfl) ?_; (simp only [Act.put, List.setIfInBounds_toArray, List.set_cons_zero, List.set_cons_succ])))
              refine TakeAll.nil ?_
              intro w5 g5
              have gE := (hg.trans ga.drew).trans g5
              clear hC m1 m2
              go_wp2_with fail
              go_ret
              exact ⟨ret_bool HB.out.symm, gE⟩
            · have q3 : decide (x.k < y) = false := decide_eq_false hlo
              have HPV' : Hid (prevB l k x = true) := by unfold Hid; rw [HPV.out]; exact decide_eq_true (by omega)
              refine wp_region_seq (by kernel_rfl) Grew.refl (fun _ _ _ => Grew.trans) (fun _ _ _ _ _ h => h) (by kernel_rfl) ?_
              repeat (first
                | (refine TakeAll.pure (v := ?_) (by rfl) ?_ ?_; rotate_left; (intro w' g'; obtain ⟨c0, c1, c2, c3, c4, c5, c6, c7⟩ := hC w' g'; have d4' := g'.cell d4; go_simp; first | done | with_reducible rfl); (simp only [Act.put, List.setIfInBounds_toArray, List.set_cons_zero, List.set_cons_succ]))
                | (refine TakeAll.skip (by rfl) ?_; (simp only [Act.put, List.setIfInBounds_toArray, List.set_cons_zero, List.set_cons_succ])))
              refine TakeAll.call (by rfl) 20 _ (fun _ => by go_simp; first | done | rfl) (fun w' g' => formed_val HFM.out HS.out.1 HS.out.2.1 w') ?_
              simp only [Act.put, List.setIfInBounds_toArray, List.set_cons_zero, List.set_cons_succ]
              repeat (first
                | (refine TakeAll.pure (v := ?_) (by rfl) ?_ ?_; rotate_left; (intro w' g'; obtain ⟨c0, c1, c2, c3, c4, c5, c6, c7⟩ := hC w' g'; have d4' := g'.cell d4; go_simp; first | done | with_reducible rfl); (simp only [Act.put, List.setIfInBounds_toArray, List.set_cons_zero, List.set_cons_succ]))
                | (refine TakeAll.skip (by rfl) ?_; (simp only [Act.put, List.setIfInBounds_toArray, List.set_cons_zero, List.set_cons_succ])))
              refine TakeAll.nil ?_
              intro w5 g5
              have gE := (hg.trans ga.drew).trans g5
              obtain ⟨c0, c1, c2, c3, c4, c5, c6, c7⟩ := hC w5 g5
              clear hC t1 t2 ga HR m1 m2 m3 m3' m4 d4 HPV q3 hlo
              have HPV := HPV'
              clear HPV'
              replace HM1 := Lib.hid (HM1.out.grew ((GWA.out).trans g5))
              replace HM2 := Lib.hid (HM2.out.grew ((GWA.out).trans g5))
              clear GWA g5 hg
              cases hfd : alFind x.n (firstM l k) with
              | none =>
                have hlk := HM1.out.lookup key3 map33 (zero24 _) x.n true
                rw [hfd] at hlk
                simp only [if_true, Option.map_none, Option.getD_none, Option.isSome_none] at hlk
                obtain ⟨wb, hwb⟩ : ∃ y, y = w5.alloc (.cells #[.int .i64 0, .string ByteArray.empty, .string ByteArray.empty, .int .i64 0, .int .i64 0, .int .i64 0, .int .i64 0, .bool false] 24) := ⟨_, rfl⟩
                have gb : Grew w5 wb := by rw [hwb]; exact (Grew.refl w5).alloc _
                obtain ⟨hn1, hn2⟩ := firstM_new HX.out hfd
                have HFT := Lib.hid (fits_new hfd)
                obtain ⟨q, hq⟩ : ∃ q : Int, (cnt l x.p k : Int) = q := ⟨_, rfl⟩
                have hqb : 0 ≤ q ∧ q ≤ 400 := by have := cnt_le l x.p k; omega
                obtain ⟨wc, up1, M1, g1⟩ := (HM1.out.grew gb).update key3 map33 x.n x
                rw [← hn1] at M1
                have M2 := (HM2.out.grew gb).kept g1 (by simp)
                have lk2 := cnt_lookup M2 x.p
                rw [hq] at lk2
                obtain ⟨wd, up2, M2', g2⟩ := M2.update key9 map44 x.p (q + 1)
                rw [hq] at hn2
                rw [← hn2] at M2'
                have lk3 := cnt_lookup M2' x.p
                obtain ⟨z, hz⟩ : ∃ z : Int, (cnt l x.p (k + 1) : Int) = z := ⟨_, rfl⟩
                rw [hz] at lk3
                have gF : Grew w wd := ((gE.trans gb).grown g1 (fun j hj => by injection hj with hj; omega)).grown g2 (fun j hj => by injection hj with hj; omega)
                have HM1' := Lib.hid (M1.kept g2 (by simp))
                have HM2' := Lib.hid M2'
                have a0 := gb.cell c0
                have a1 := gb.cell c1
                have a2 := gb.cell c2
                have a3 := gb.cell c3
                have a4 := gb.cell c4
                have a5 := gb.cell c5
                have a6 := gb.cell c6
                have a7 := gb.cell c7
                have e1 := g1.cell a1 (by simp; omega)
                have f1 := g2.cell e1 (by simp; omega)
                have HZ := Lib.hid hz
                rw [ov_eq] at up1
                clear hfd hn1 hn2 hq M1 M2 M2' g1 g2 gb HM1 HM2 hz
                by_cases h16 : 16 < z
                · have q16 : decide (16 < z) = true := decide_eq_true h16
                  have HB := HF.out (okB_bad HX.out (by unfold goodB; rw [decide_eq_false (show ¬ cnt l x.p (k + 1) ≤ 16 by have := HZ.out; omega)]; simp) hlt)
                  go_upto_region 11 with (fail)
                  rw [← hwb]
                  clear hwb hlk
                  go_wp2_with fail
                  go_ret
                  exact ⟨ret_bool HB.out.symm, gF⟩
                · have q16 : decide (16 < z) = false := decide_eq_false h16
                  have HOK' : Hid (okB l (k + 1) = true) := by unfold Hid; rw [okB_succ HX.out, HOK.out, good_of HFM.out HPV.out HFT.out (by have := HZ.out; omega)]; rfl
                  go_upto_region 11 with (fail)
                  rw [← hwb]
                  clear hwb hlk
                  go_wp2_with fail
                  go_roundw
                  case rel => exact ⟨k + 1, by omega, by go_num, HOK', HM1', HM2', gF⟩
                  case measure => simp [intOf]; omega
              | some y =>
                have hlk := HM1.out.lookup key3 map33 (zero24 _) x.n true
                rw [hfd] at hlk
                simp only [if_true, Option.map_some, Option.getD_some, Option.isSome_some] at hlk
                rw [ov_eq] at hlk
                obtain ⟨wb, hwb⟩ : ∃ z, z = w5.alloc (.cells #[.int .i64 y.n, .string y.p, .string y.c, .int .i64 y.r, .int .i64 y.k, .int .i64 y.f, .int .i64 y.m, .bool y.fam] 24) := ⟨_, rfl⟩
                have gb : Grew w5 wb := by rw [hwb]; exact (Grew.refl w5).alloc _
                have hry : wb.rangeAt w5.heap.size 0 (oe y) := by rw [hwb]; exact range_new w5 (oe y) 24
                obtain ⟨-, y1, y2, -, -, -, -, -⟩ := cells24n hry
                obtain ⟨hn1, hn2⟩ := firstM_old HX.out hfd
                have HFT := Lib.hid (fits_of HOK.out hfd)
                have M1 := HM1.out.grew gb
                have M2 := HM2.out.grew gb
                rw [← hn1] at M1
                rw [← hn2] at M2
                have lk3 := cnt_lookup M2 x.p
                obtain ⟨z, hz⟩ : ∃ z : Int, (cnt l x.p (k + 1) : Int) = z := ⟨_, rfl⟩
                rw [hz] at lk3
                have gF : Grew w wb := gE.trans gb
                have HM1' := Lib.hid M1
                have HM2' := Lib.hid M2
                have a0 := gb.cell c0
                have a1 := gb.cell c1
                have a2 := gb.cell c2
                have HZ := Lib.hid hz
                clear hfd hn1 hn2 M1 M2 gb HM1 HM2 hz hry
                by_cases hp : y.p = x.p
                · have qp : (y.p.toList == x.p.toList) = true := by rw [str_eq]; exact decide_eq_true hp
                  by_cases hcr : y.c = x.c
                  · have qc : (y.c.toList == x.c.toList) = true := by rw [str_eq]; exact decide_eq_true hcr
                    have HFT' : Hid (fitsB l k x = true) := by unfold Hid; rw [HFT.out, decide_eq_true hp, decide_eq_true hcr]; rfl
                    clear hp hcr HFT
                    by_cases h16 : 16 < z
                    · have q16 : decide (16 < z) = true := decide_eq_true h16
                      have HB := HF.out (okB_bad HX.out (by unfold goodB; rw [decide_eq_false (show ¬ cnt l x.p (k + 1) ≤ 16 by have := HZ.out; omega)]; simp) hlt)
                      go_upto_region 11 with (fail)
                      rw [← hwb]
                      clear hwb hlk
                      go_wp2_with fail
                      go_ret
                      exact ⟨ret_bool HB.out.symm, gF⟩
                    · have q16 : decide (16 < z) = false := decide_eq_false h16
                      have HOK' : Hid (okB l (k + 1) = true) := by unfold Hid; rw [okB_succ HX.out, HOK.out, good_of HFM.out HPV.out HFT'.out (by have := HZ.out; omega)]; rfl
                      go_upto_region 11 with (fail)
                      rw [← hwb]
                      clear hwb hlk
                      go_wp2_with fail
                      go_roundw
                      case rel => exact ⟨k + 1, by omega, by go_num, HOK', HM1', HM2', gF⟩
                      case measure => simp [intOf]; omega
                  · have qc : (y.c.toList == x.c.toList) = false := by rw [str_eq]; exact decide_eq_false hcr
                    have HB := HF.out (okB_bad HX.out (by unfold goodB; rw [HFT.out, decide_eq_false hcr]; simp) hlt)
                    clear hp hcr HFT
                    go_upto_region 11 with (fail)
                    rw [← hwb]
                    clear hwb hlk
                    go_wp2_with fail
                    go_ret
                    exact ⟨ret_bool HB.out.symm, gF⟩
                · have qp : (y.p.toList == x.p.toList) = false := by rw [str_eq]; exact decide_eq_false hp
                  have HB := HF.out (okB_bad HX.out (by unfold goodB; rw [HFT.out, decide_eq_false hp]; simp) hlt)
                  clear hp HFT
                  go_upto_region 11 with (fail)
                  rw [← hwb]
                  clear hwb hlk
                  go_wp2_with fail
                  go_ret
                  exact ⟨ret_bool HB.out.symm, gF⟩
      · have HB := HT.out (show okB l n = true by have := HOK.out; rwa [show k = n by omega] at this)
        go_wp2_with fail
        go_ret
        exact ⟨ret_bool HB.out.symm, hg⟩
theorem valid_val {A : Option Addr} {n c : Nat} {l : List Ord} {w : World} {t : Bool} (h : Ords w A n c l) (ht : validB l = t) :
    Calls Try.prog 14 #[.slice A n c] w fun r w' => r = .returned (.bool t) ∧ Grew w w' := by subst ht; exact valid_any A n c l w h
end Go.Proofs.Ytjpnodmcglcihaa
