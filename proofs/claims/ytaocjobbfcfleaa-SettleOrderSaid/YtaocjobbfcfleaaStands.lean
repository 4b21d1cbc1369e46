/-
  The standings of payments after answers: settle.standings.
-/
import Derived.Test.YtaocjobbfcfleaaStand
import Derived.Test.YtaocjobbfcfleaaStP
namespace Go.Proofs.Ytaocjobbfcfleaa
open Go.RowKit Go.Proofs WageMem WageOrd WageRec WageMap WageReg WageSet

theorem info111 : (Try.prog.info? 111).map (fun i => (i.zero, i.size, i.bytes)) = some (some (.agg #[.int .i64 0, .int .i64 0, .int .i64 0, .int .i64 0]), 4, 32) := by kernel_rfl
theorem key3 : KeyOk Try.prog 3 (fun n : Int => Value.int .i64 n) := int_key (by kernel_rfl)
theorem zero3 (w : World) : (zeroValue 3).run Try.prog w = .ok (.int .i64 0) w := by kernel_rfl
theorem map102 : Try.prog.underlying 102 = some (.map 3 3) := by kernel_rfl
theorem below_row {w w' : World} {B g : Nat} (h : Below B w w') (hg : B ≤ g) (cs : Array Value) : Below B w (w'.setRow g cs) :=
  ⟨h.os, h.tape, h.output, by rw [setRow_size]; exact h.size, fun k hk => (setRow_other w' g k cs (by omega)).trans (h.block k hk)⟩
theorem make_int (c : Int) (h0 : 0 ≤ c) (hn : c ≤ 1000) (w : World) : (Instr.makeSlice 103 (.int .i64 c) (.int .i64 c)).run Try.prog w = .ok (.slice (some ⟨w.heap.size, 0, none⟩) c.toNat c.toNat) (w.alloc (.cells (madeCells (Value.agg #[.int .i64 0, .int .i64 0, .int .i64 0, .int .i64 0]).cells (c.toNat * 4)) 111)) := by
  obtain ⟨i0, hi, hz0, hz1, hz2⟩ := info_parts info111
  have hb : (i0.bytes : Int) * c ≤ 281474976710656 := by rw [hz2]; omega
  have hr := run_make (P := Try.prog) w 103 111 i0 _ Try.underlying103 hi hz0 .i64 .i64 c c h0 (Int.le_refl _) hb (by omega)
  rw [hz1] at hr
  exact hr
theorem make_tal (n : Nat) (hn : n ≤ 1000) (w : World) : (Instr.makeSlice 103 (.int .i64 (n : Int)) (.int .i64 (n : Int))).run Try.prog w = .ok (.slice (some ⟨w.heap.size, 0, none⟩) n n) (w.alloc (.cells ((List.replicate n (⟨0, 0, 0, 0⟩ : Tal)).flatMap te).toArray 111)) := by
  have hr := make_int (n : Int) (by omega) (by omega) w
  rw [Int.toNat_natCast] at hr
  have h1 : (madeCells (Value.agg #[.int .i64 0, .int .i64 0, .int .i64 0, .int .i64 0]).cells (n * 4)).toList = List.replicate (n * 4) (.int .i64 0) := by
    rw [List.eq_replicate_iff]
    refine ⟨by simp [madeCells], fun v hv => ?_⟩
    simp only [madeCells, Value.cells, Array.toList_map, Array.toList_range, List.mem_map, List.mem_range] at hv
    obtain ⟨i, _, rfl⟩ := hv
    have h4 : i % 4 < 4 := Nat.mod_lt _ (by decide)
    show #[Value.int .i64 0, .int .i64 0, .int .i64 0, .int .i64 0][i % 4]! = _
    match i % 4, h4 with
    | 0, _ => rfl
    | 1, _ => rfl
    | 2, _ => rfl
    | 3, _ => rfl
  have h2 : ((List.replicate n (⟨0, 0, 0, 0⟩ : Tal)).flatMap te) = List.replicate (n * 4) (.int .i64 0) := by
    rw [List.eq_replicate_iff]
    refine ⟨by rw [flat_len te_ok, List.length_replicate], fun v hv => ?_⟩
    obtain ⟨y, hy, hv⟩ := List.mem_flatMap.1 hv
    rw [List.eq_of_mem_replicate hy] at hv
    simp [te] at hv
    exact hv
  rw [hr, h2, ← h1]
theorem prev_zero {zs : List Ans} {k : Nat} {x : Ans} (h : k = 0) : prevQ zs k x = true := by subst h; rfl
theorem prev_pos {zs : List Ans} {k : Nat} {a x : Ans} {b : Bool} (h : 1 ≤ k) (hx : zs[k - 1]? = some x) (hb : decide (x.q < a.q) = b) : prevQ zs k a = b := by
  obtain ⟨j, rfl⟩ : ∃ j, k = j + 1 := ⟨k - 1, by omega⟩
  exact prev_at (by simpa using hx) hb
theorem range_far {w w' : World} {row : Option Nat} {b q : Nat} {l : List Value} (h : w.rangeAt b q l) (g : w.grownBy w' row) (hne : some b ≠ row) : w'.rangeAt b q l := fun i v hv => g.cell (h i v hv) hne
abbrev MapN := MapIs (fun n : Int => Value.int .i64 n) (fun n : Int => Value.int .i64 n)
/-- A contract's end: the standings, or none. -/
def RetStand (ps : List Pay) (zs : List Ans) (w : World) (r : Ending) (w' : World) : Prop :=
  (standOk ps zs = false ∧ r = .returned (.tuple #[.slice none 0 0, .bool false]) ∧ Grew w w') ∨
  (standOk ps zs = true ∧ ∃ C q cc, r = .returned (.tuple #[.slice C q cc, .bool true]) ∧ (standL ps zs).length = q ∧ w'.ownsRow w.heap.size 43 7 (.slice C q cc) q ((standL ps zs).flatMap se) ∧ Grew w w')

set_option maxRecDepth 100000 in
set_option maxHeartbeats 32000000 in
theorem stands_any (A B : Option Addr) (n c m e : Nat) (ps : List Pay) (zs : List Ans) (w : World) (hP : Pays w A n c ps) (hA : Anss w B m e zs) (hn : n ≤ 410) (hm : m ≤ 2010) : Calls Try.prog 41 #[.slice A n c, .slice B m e] w (RetStand ps zs w) := by
  have HP := Lib.hid hP
  have HA := Lib.hid hA
  have HL := Lib.hid hP.1.1
  have HLA := Lib.hid hA.1
  have hmm := @run_makeMap Try.prog
  have M1 := MapIs.made (ek := fun n : Int => Value.int .i64 n) (ev := fun n : Int => Value.int .i64 n) w
  obtain ⟨wm, hwm⟩ : ∃ x, x = w.alloc (.map #[] 0) := ⟨_, rfl⟩
  have gm : Grew w wm := by rw [hwm]; exact (Grew.refl _).alloc _
  obtain ⟨b1, hb1⟩ : ∃ b, b = w.heap.size := ⟨_, rfl⟩
  have hle1 : w.heap.size ≤ b1 := by omega
  rw [← hwm, ← hb1] at M1
  have HM1 := Lib.hid M1
  have G0 := Lib.hid gm
  clear M1 gm hP hA
  go_enter Try.func41, Try.ntmps41
  go_wp2_with fail
  rw [← hwm, ← hb1]
  clear hwm hb1 hmm
  go_loopw [25] (fun i y => ∃ k : Nat, k ≤ n ∧ i = .int .i64 k ∧ Hid (psB ps k = true) ∧ Hid (MapN y b1 (plM ps k)) ∧ Grew w y) (fun i _ => n - (intOf i).toNat)
  case atStart => exact ⟨0, Nat.zero_le _, rfl, rfl, HM1, G0.out⟩
  case round =>
    clear HM1 G0
    obtain ⟨k, hk, rfl, HK, HM1, hg⟩ := hrel
    by_cases hlt : k < n
    · obtain ⟨b, o, x, rfl, hx, hr⟩ := (HP.out.1.grew hg).at_ pe_ok hlt
      have HX := Lib.hid hx
      have hWx := HP.out.2 x (List.mem_of_getElem? hx)
      have k0 : (0 : Int) ≤ (k : Int) := by omega
      have k1 : (k : Int) < (n : Int) := by omega
      obtain ⟨c0, c1, c2, c3⟩ := p_cells hr
      obtain ⟨wa, hwa⟩ : ∃ y, y = wr.alloc (.cells #[.int .i64 x.id, .string x.acc, .int .i64 x.c, .int .i64 x.d] 27) := ⟨_, rfl⟩
      have ga : Grew wr wa := by rw [hwa]; exact (Grew.refl wr).alloc _
      have hrx : wa.rangeAt wr.heap.size 0 (pe x) := by rw [hwa]; exact range_new wr (pe x) 27
      have HRX := Lib.hid hrx
      obtain ⟨x0, x1, x2, x3⟩ := p_cells0 hrx
      have MA := HM1.out.grew ga
      have hlk := MA.lookup key3 map102 (zero3 _) x.id true
      rcases plM_spec (ps := ps) x.id (k := k) (by rw [HL.out]; omega) with ⟨hf, hany⟩ | ⟨j, p, hj, hp, he, hf⟩
      · rw [hf] at hlk
        simp only [Option.map_none, Option.getD_none, Option.isSome_none, if_true] at hlk
        have HANY := Lib.hid hany
        have HMA := Lib.hid MA
        have gA := hg.trans ga
        clear hx hr hrx hf hany MA HM1 hg
        go_upto_region 5 with (fail)
        rw [← hwa]
        clear hwa c0 c1 c2 c3
        cases hgp : payB x with
        | false =>
          have HGP := Lib.hid hgp
          have HB : Hid (standOk ps zs = false) := by unfold Hid standOk; rw [psB_bad (by rw [HL.out]; exact hlt) HX.out (.inl HGP.out)]; rfl
          clear hgp
          go_wp2_with fail
          refine (pay_val HGP.out hWx _).mono ?_
          rintro e w5 ⟨rfl, g5⟩
          go_wp2_with fail
          refine bodyPost_ret (results_tmp2 rfl _ _ _) rfl ?_
          exact .inl ⟨HB.out, rfl, gA.trans g5⟩
        | true =>
          have HGP := Lib.hid hgp
          have HK2 : Hid (psB ps (k + 1) = true) := psB_succ HK.out HX.out HGP.out HANY.out
          clear hgp
          go_wp2_with fail
          refine (pay_val HGP.out hWx _).mono ?_
          rintro e w5 ⟨rfl, g5⟩
          have HM5 := Lib.hid (HMA.out.grew g5)
          have hrx := p_cells0 (range_grew HRX.out g5)
          obtain ⟨z0, z1, z2, z3⟩ := hrx
          have gB := gA.trans g5
          obtain ⟨wb, up, M2, gb⟩ := HM5.out.update key3 map102 x.id (k : Int)
          rw [← plM_succ HX.out] at M2
          have HM2 := Lib.hid M2
          have gE : Grew w wb := gB.grown gb (fun j hj => by injection hj with hj; omega)
          clear x0 x1 x2 x3 hlk HMA HRX gA g5 M2 gb HM5 gB
          go_wp2_with fail
          go_roundw
          case rel => exact ⟨k + 1, by omega, by go_num, HK2, HM2, gE⟩
          case measure => simp [intOf]; omega
      · rw [hf] at hlk
        simp only [Option.map_some, Option.getD_some, Option.isSome_some, if_true] at hlk
        have HB : Hid (standOk ps zs = false) := by
          unfold Hid standOk
          rw [psB_bad (by rw [HL.out]; exact hlt) HX.out (.inr (List.any_eq_true.2 ⟨p, List.mem_iff_getElem?.2 ⟨j, by rw [List.getElem?_take, if_pos hj]; exact hp⟩, by simpa using he⟩))]; rfl
        have gA := hg.trans ga
        clear hx hr hrx hf hp he MA HM1 hg HRX
        go_upto_region 5 with (fail)
        rw [← hwa]
        clear hwa c0 c1 c2 c3
        go_wp2_with fail
        refine bodyPost_ret (results_tmp2 rfl _ _ _) rfl ?_
        exact .inl ⟨HB.out, rfl, gA⟩
    · obtain rfl : n = k := by omega
      have HPS : Hid (psB ps ps.length = true) := by unfold Hid; rw [HL.out]; exact HK.out
      obtain ⟨g, hg0⟩ : ∃ g, g = wr.heap.size := ⟨_, rfl⟩
      obtain ⟨tc, htc⟩ : ∃ tc : Array Value, tc = ((List.replicate n (⟨0, 0, 0, 0⟩ : Tal)).flatMap te).toArray := ⟨_, rfl⟩
      have hmk := make_tal n (by omega)
      rw [← htc] at hmk
      obtain ⟨wt, hwt⟩ : ∃ y, y = wr.alloc (.cells tc 111) := ⟨_, rfl⟩
      have gt : Grew wr wt := by rw [hwt]; exact (Grew.refl wr).alloc _
      have HT : Hid (Blk te 111 wt g (ps.map fun p => tal p.id (zs.take 0))) := by
        unfold Hid Blk
        rw [tal_zero, HL.out, hwt, hg0, ← htc]
        exact heap_alloc_new wr _
      have HMt := Lib.hid (HM1.out.grew gt)
      have gT := hg.trans gt
      have hb1g : b1 < g := by rw [hg0]; exact HM1.out.lt
      have hgt : g < wt.heap.size := HT.out.lt
      clear HM1 hg gt htc HK
      go_wp2_with fail
      rw [← hwt, ← hg0]
      clear hwt hg0 hmk
      refine (effects_any _).mono ?_
      rintro e w5 ⟨rfl, g5⟩
      obtain ⟨bk, hbk⟩ : ∃ b, b = w5.heap.size := ⟨_, rfl⟩
      obtain ⟨w6, hw6⟩ : ∃ y, y = w5.alloc (.cells #[.nilFunc, .func (.func 68) #[] #[], .func (.func 69) #[] #[], .func (.func 70) #[] #[], .func (.func 71) #[] #[]] 107) := ⟨_, rfl⟩
      have g6 : Grew w5 w6 := by rw [hw6]; exact (Grew.refl w5).alloc _
      have HK6 : Hid (w6.rangeAt bk 0 [.nilFunc, .func (.func 68) #[] #[], .func (.func 69) #[] #[], .func (.func 70) #[] #[], .func (.func 71) #[] #[]]) := by unfold Hid; rw [hw6, hbk]; exact range_new w5 [.nilFunc, .func (.func 68) #[] #[], .func (.func 69) #[] #[], .func (.func 70) #[] #[], .func (.func 71) #[] #[]] 107
      have HM6 := Lib.hid (HMt.out.grew (g5.trans g6))
      have HT6 := Lib.hid (HT.out.grew (g5.trans g6))
      have gg6 := gT.trans (g5.trans g6)
      have hgk : g < bk := by rw [hbk]; exact Nat.lt_of_lt_of_le hgt g5.le
      have NE : Hid (b1 ≠ g ∧ bk ≠ g ∧ b1 ≠ bk ∧ w.heap.size ≤ g ∧ w.heap.size ≤ bk) := ⟨by omega, by omega, by omega, by omega, by omega⟩
      clear g5 g6 gT HT HMt hgt hb1g hgk
      go_wp2_with fail
      rw [← hw6, ← hbk]
      clear hw6 hbk
      go_loopw [54] (fun i y => ∃ k : Nat, k ≤ m ∧ i = .int .i64 k ∧ Hid (asB ps zs k = true) ∧ Hid (MapN y b1 (plM ps n)) ∧ Hid (Blk te 111 y g (ps.map fun p => tal p.id (zs.take k))) ∧ Hid (y.rangeAt bk 0 [.nilFunc, .func (.func 68) #[] #[], .func (.func 69) #[] #[], .func (.func 70) #[] #[], .func (.func 71) #[] #[]]) ∧ Grew w y) (fun i _ => m - (intOf i).toNat)
      case atStart => exact ⟨0, Nat.zero_le _, rfl, rfl, HM6, HT6, HK6, gg6⟩
      case round =>
        clear HM6 HT6 HK6 gg6
        obtain ⟨w2, rfl⟩ : ∃ wi : World, wi = wr := ⟨_, rfl⟩
        obtain ⟨k, hk, rfl, HK, HM, HT, HKI, hg⟩ := hrel
        by_cases hlt : k < m
        · obtain ⟨b, o, x, rfl, hx, hr⟩ := (HA.out.grew hg).at_ ae_ok hlt
          have HX := Lib.hid hx
          have k0 : (0 : Int) ≤ (k : Int) := by omega
          have k1 : (k : Int) < (m : Int) := by omega
          obtain ⟨c0, c1, c2, c3, c4⟩ := a_cells hr
          obtain ⟨wa, hwa⟩ : ∃ y, y = w2.alloc (.cells #[.int .i64 x.q, .int .i64 x.id, .int .i64 x.k, .int .i64 x.c, .int .i64 x.d] 29) := ⟨_, rfl⟩
          have ga : Grew w2 wa := by rw [hwa]; exact (Grew.refl w2).alloc _
          have hrx : wa.rangeAt w2.heap.size 0 (ae x) := by rw [hwa]; exact range_new w2 (ae x) 29
          have HRX := Lib.hid hrx
          obtain ⟨x0, x1, x2, x3, x4⟩ := a_cells0 hrx
          have MA := HM.out.grew ga
          have hlk := MA.lookup key3 map102 (zero3 _) x.id true
          have HMA := Lib.hid MA
          have HTA := Lib.hid (HT.out.grew ga)
          have HKA : Hid (wa.rangeAt bk 0 [.nilFunc, .func (.func 68) #[] #[], .func (.func 69) #[] #[], .func (.func 70) #[] #[], .func (.func 71) #[] #[]]) := range_grew HKI.out ga
          have gA := hg.trans ga
          have HRY0 : Hid (∀ y, 1 ≤ k → zs[k - 1]? = some y → wa.rangeAt b (o + (k - 1) * 5) (ae y)) := fun y hk1 hy => by
            obtain ⟨b', o', y', e1, e2, e3⟩ := (HA.out.grew gA).at_ ae_ok (show k - 1 < m by omega)
            rw [hy] at e2
            injection e1 with e1
            injection e1 with e1 e4
            injection e2 with e2
            subst e1 e4 e2
            exact e3
          clear hx hr hrx MA HM HT HKI ga
          rcases plM_spec (ps := ps) x.id (k := n) (by rw [HL.out]; omega) with ⟨hf, hany⟩ | ⟨j, p, hj, hp, he, hf⟩
          · rw [hf] at hlk
            simp only [Option.map_none, Option.getD_none, Option.isSome_none, if_true] at hlk
            have HFN : Hid (findP ps x.id = none) := findP_none (by rw [HL.out]; exact hany)
            have HB : Hid (standOk ps zs = false) := by unfold Hid standOk; rw [asB_bad (by rw [HLA.out]; exact hlt) HX.out (.inr (.inl (day_no HFN.out))), Bool.and_false, Bool.false_and]
            have hC : ∀ w', Grew wa.drew w' → (w'.cell? ⟨w2.heap.size, 0, none⟩ = some (.int .i64 x.q) ∧ w'.cell? ⟨w2.heap.size, 1, none⟩ = some (.int .i64 x.id) ∧ w'.cell? ⟨w2.heap.size, 2, none⟩ = some (.int .i64 x.k) ∧ w'.cell? ⟨w2.heap.size, 3, none⟩ = some (.int .i64 x.c) ∧ w'.cell? ⟨w2.heap.size, 4, none⟩ = some (.int .i64 x.d)) ∧ True := fun w' g' =>
              ⟨a_cells0 (range_grew HRX.out ((Grew.refl wa).drew.trans g')), trivial⟩
            clear hf hany
            go_upto_region 15 with (fail)
            rw [← hwa]
            clear hwa c0 c1 c2 c3 c4 
            go_wp2_with fail
            clear x0 x1 x2 x3 x4 hlk
            refine wp_region_seq (by kernel_rfl) Grew.refl (fun _ _ _ => Grew.trans) (fun _ _ _ _ _ h => h) (by kernel_rfl) ?_
            repeat (first
              | (refine TakeAll.pure (v := ?_) (by rfl) ?_ ?_; rotate_left; (intro w' g'; obtain ⟨⟨a0, a1, a2, a3, a4⟩, aR⟩ := hC w' g'; go_simp; first | done | with_reducible rfl); (simp only [Act.put, List.setIfInBounds_toArray, List.set_cons_zero, List.set_cons_succ]))
              | (refine TakeAll.skip (by rfl) ?_; (simp only [Act.put, List.setIfInBounds_toArray, List.set_cons_zero, List.set_cons_succ])))
            refine TakeAll.nil ?_
            intro w5 g5
            clear hC
            go_wp2_with fail
            refine bodyPost_ret (results_tmp2 rfl _ _ _) rfl ?_
            exact .inl ⟨HB.out, rfl, gA.trans ((Grew.refl wa).drew.trans g5)⟩
          · rw [hf] at hlk
            simp only [Option.map_some, Option.getD_some, Option.isSome_some, if_true] at hlk
            have HFN : Hid (findP ps x.id = some p) := findP_at HPS.out hp he
            obtain ⟨bp, op, p', rfl, e2, e3⟩ := (HP.out.1.grew gA).at_ pe_ok hj
            obtain rfl : p = p' := by rw [hp] at e2; injection e2
            have HRP := Lib.hid e3
            clear hf e2 e3
            have jj0 : (0 : Int) ≤ (j : Int) := by omega
            have jj1 : (j : Int) < (n : Int) := by omega
            have hC0 : ∀ w', Grew wa.drew w' → True := fun _ _ => trivial
            have hC : ∀ w', Grew wa.drew w' → (w'.cell? ⟨w2.heap.size, 0, none⟩ = some (.int .i64 x.q) ∧ w'.cell? ⟨w2.heap.size, 1, none⟩ = some (.int .i64 x.id) ∧ w'.cell? ⟨w2.heap.size, 2, none⟩ = some (.int .i64 x.k) ∧ w'.cell? ⟨w2.heap.size, 3, none⟩ = some (.int .i64 x.c) ∧ w'.cell? ⟨w2.heap.size, 4, none⟩ = some (.int .i64 x.d)) ∧ w'.cell? ⟨bp, op + j * 4 + 3, none⟩ = some (.int .i64 p.d) := fun w' g' =>
              ⟨a_cells0 (range_grew HRX.out ((Grew.refl wa).drew.trans g')), (p_cells (range_grew HRP.out ((Grew.refl wa).drew.trans g'))).2.2.2⟩
            cases hga : ansB x with
            | false =>
              have HGA := Lib.hid hga
              have HB : Hid (standOk ps zs = false) := by unfold Hid standOk; rw [asB_bad (by rw [HLA.out]; exact hlt) HX.out (.inl HGA.out), Bool.and_false, Bool.false_and]
              clear hga
              go_upto_region 15 with (fail)
              rw [← hwa]
              clear hwa c0 c1 c2 c3 c4 
              go_wp2_with fail
              clear x0 x1 x2 x3 x4 hlk
              refine wp_region_seq (by kernel_rfl) Grew.refl (fun _ _ _ => Grew.trans) (fun _ _ _ _ _ h => h) (by kernel_rfl) ?_
              repeat (first
                | (refine TakeAll.pure (v := ?_) (by rfl) ?_ ?_; rotate_left; (intro w' g'; obtain ⟨⟨a0, a1, a2, a3, a4⟩, aR⟩ := hC w' g'; go_simp; first | done | with_reducible rfl); (simp only [Act.put, List.setIfInBounds_toArray, List.set_cons_zero, List.set_cons_succ]))
                | (refine TakeAll.skip (by rfl) ?_; (simp only [Act.put, List.setIfInBounds_toArray, List.set_cons_zero, List.set_cons_succ])))
              refine TakeAll.call (by rfl) 36 _ (fun w' => by have c := hC0 w'; go_simp; first | done | rfl) (fun w' g' => ans_val HGA.out _) ?_
              simp only [Act.put, List.setIfInBounds_toArray, List.set_cons_zero, List.set_cons_succ]
              repeat (first
                | (refine TakeAll.pure (v := ?_) (by rfl) ?_ ?_; rotate_left; (intro w' g'; obtain ⟨⟨a0, a1, a2, a3, a4⟩, aR⟩ := hC w' g'; go_simp; first | done | with_reducible rfl); (simp only [Act.put, List.setIfInBounds_toArray, List.set_cons_zero, List.set_cons_succ]))
                | (refine TakeAll.skip (by rfl) ?_; (simp only [Act.put, List.setIfInBounds_toArray, List.set_cons_zero, List.set_cons_succ])))
              refine TakeAll.nil ?_
              intro w5 g5
              clear hC hC0
              go_wp2_with fail
              refine bodyPost_ret (results_tmp2 rfl _ _ _) rfl ?_
              exact .inl ⟨HB.out, rfl, gA.trans ((Grew.refl wa).drew.trans g5)⟩
            | true =>
              have HGA := Lib.hid hga
              clear hga
              by_cases hd : p.d ≤ x.d
              · have qd : decide (x.d < p.d) = false := decide_eq_false (by omega)
                have HDY : Hid (dayOk ps x = true) := dayAt HFN.out (decide_eq_true hd)
                by_cases h0 : k = 0
                · have q0 : decide (0 < k) = false := decide_eq_false (by omega)
                  have q0' : decide (0 < (k : Int)) = false := decide_eq_false (by omega)
                  have HK2 : Hid (asB ps zs (k + 1) = true) := asB_succ HK.out HX.out HGA.out HDY.out (prev_zero h0)
                  clear h0 hd
                  go_upto_region 15 with (fail)
                  rw [← hwa]
                  clear hwa c0 c1 c2 c3 c4
                  go_wp2_with fail
                  clear x0 x1 x2 x3 x4 hlk
                  refine wp_region_seq (by kernel_rfl) Grew.refl (fun _ _ _ => Grew.trans) (fun _ _ _ _ _ h => h) (by kernel_rfl) ?_
                  repeat (first
                    | (refine TakeAll.pure (v := ?_) (by rfl) ?_ ?_; rotate_left; (intro w' g'; obtain ⟨⟨a0, a1, a2, a3, a4⟩, aR⟩ := hC w' g'; go_simp; first | done | with_reducible rfl); (simp only [Act.put, List.setIfInBounds_toArray, List.set_cons_zero, List.set_cons_succ]))
                    | (refine TakeAll.skip (by rfl) ?_; (simp only [Act.put, List.setIfInBounds_toArray, List.set_cons_zero, List.set_cons_succ])))
                  refine TakeAll.call (by rfl) 36 _ (fun w' => by have c := hC0 w'; go_simp; first | done | rfl) (fun w' g' => ans_val HGA.out _) ?_
                  simp only [Act.put, List.setIfInBounds_toArray, List.set_cons_zero, List.set_cons_succ]
                  repeat (first
                    | (refine TakeAll.pure (v := ?_) (by rfl) ?_ ?_; rotate_left; (intro w' g'; obtain ⟨⟨a0, a1, a2, a3, a4⟩, aR⟩ := hC w' g'; go_simp; first | done | with_reducible rfl); (simp only [Act.put, List.setIfInBounds_toArray, List.set_cons_zero, List.set_cons_succ]))
                    | (refine TakeAll.skip (by rfl) ?_; (simp only [Act.put, List.setIfInBounds_toArray, List.set_cons_zero, List.set_cons_succ])))
                  refine TakeAll.nil ?_
                  intro w5 g5
                  have HMw := Lib.hid (HMA.out.grew ((Grew.refl wa).drew.trans g5))
                  have HTw := Lib.hid (HTA.out.grew ((Grew.refl wa).drew.trans g5))
                  have HKw : Hid (w5.rangeAt bk 0 [.nilFunc, .func (.func 68) #[] #[], .func (.func 69) #[] #[], .func (.func 70) #[] #[], .func (.func 71) #[] #[]]) := range_grew HKA.out ((Grew.refl wa).drew.trans g5)
                  have HXw := Lib.hid (range_grew HRX.out ((Grew.refl wa).drew.trans g5))
                  have gW := gA.trans ((Grew.refl wa).drew.trans g5)
                  have HTJ : Hid ((ps.map fun p => tal p.id (zs.take k))[j]? = some (tal p.id (zs.take k))) := by unfold Hid; rw [List.getElem?_map, hp]; rfl
                  have HRD := tal_round HPS.out hp HX.out he
                  have HRD2 := Lib.hid HRD
                  have HBD := Lib.hid (tal_bound HK.out (by omega) p.id)
                  have hcx := ans_c HGA.out
                  have jj0 : (0 : Int) ≤ (j : Int) := by omega
                  have jj1 : (j : Int) < (n : Int) := by omega
                  clear HRD hC hC0 g5 HRX HMA HTA HKA HRP gA
                  rcases ans_k HGA.out with hk1 | hk1 | hk1 | hk1
                  · have hC : ∀ w', Grew w5.drew w' → (w'.cell? ⟨w2.heap.size, 0, none⟩ = some (.int .i64 x.q) ∧ w'.cell? ⟨w2.heap.size, 1, none⟩ = some (.int .i64 x.id) ∧ w'.cell? ⟨w2.heap.size, 2, none⟩ = some (.int .i64 1) ∧ w'.cell? ⟨w2.heap.size, 3, none⟩ = some (.int .i64 x.c) ∧ w'.cell? ⟨w2.heap.size, 4, none⟩ = some (.int .i64 x.d)) ∧ w'.cell? ⟨bk, 1, none⟩ = some (.func (.func 68) #[] #[]) := fun w' g' => by
                      have gg := (Grew.refl w5).drew.trans g'
                      have h1 := a_cells0 (range_grew HXw.out gg)
                      have h2 := range_grew HKw.out gg 1 _ rfl
                      rw [hk1] at h1
                      rw [Nat.zero_add] at h2
                      exact ⟨h1, h2⟩
                    have HF : Hid (effF x.k = 68) := by unfold Hid; rw [hk1]; rfl
                    clear hk1
                    go_wp2_with fail
                    refine wp_region_G (G := Grew) (by kernel_rfl) Grew.refl 10 ?_
                    refine wpAnyG_takes Grew.refl (fun _ _ _ => Grew.trans) (fun _ _ _ _ _ h => h) [0, 1, 2, 3, 4, 5, 6, 7, 8, 9] (fuel' := 1) (by kernel_rfl) (by kernel_rfl) (by simp only [pickOps, List.getElem?_toArray, List.getElem?_cons_zero, List.getElem?_cons_succ]; rfl) ?_
                    repeat (first
                      | (refine TakeAll.pure (v := ?_) (by rfl) ?_ ?_; rotate_left; (intro w' g'; obtain ⟨⟨a0, a1, a2, a3, a4⟩, aR⟩ := hC w' g'; go_simp; first | done | with_reducible rfl); (simp only [Act.put, List.setIfInBounds_toArray, List.set_cons_zero, List.set_cons_succ]))
                      | (refine TakeAll.skip (by rfl) ?_; (simp only [Act.put, List.setIfInBounds_toArray, List.set_cons_zero, List.set_cons_succ])))
                    refine TakeAll.nil ?_
                    refine wpAnyG_end (by kernel_rfl) (fuel' := 0) (by kernel_rfl) (by simp only [pickOps, List.getElem?_toArray, List.getElem?_cons_zero, List.getElem?_cons_succ]; rfl) rfl ?_
                    intro w7 g7 K hK
                    have gg := (Grew.refl w5).drew.trans g7
                    refine wp_call 68 #[.pointer (some ⟨g, j * 4, none⟩), .int .i64 x.c] (by go_simp; first | done | rfl) ?_
                    refine (eff_val (a := x) HF.out (ans_k HGA.out) (HTw.out.grew gg) HTJ.out (fun z hz => ?_)).mono ?_
                    · simp only [List.mem_cons, List.not_mem_nil, or_false] at hz
                      rcases hz with rfl | rfl | rfl | rfl | rfl
                      · have := HBD.out _ (.head _); omega
                      · have := HBD.out _ (.tail _ (.head _)); omega
                      · have := HBD.out _ (.tail _ (.tail _ (.head _))); omega
                      · have := HBD.out _ (.tail _ (.tail _ (.tail _ (.head _)))); omega
                      · omega
                    rintro e w8 ⟨rfl, HT8, g8⟩
                    refine ⟨_, rfl, hK _ _ ?_⟩
                    clear hK K
                    rw [HRD2.out] at HT8
                    have HT2 := Lib.hid HT8
                    have HM2 := Lib.hid ((HMw.out.grew gg).kept g8 (fun h => NE.out.1 (by injection h)))
                    have HK8 : Hid (w8.rangeAt bk 0 [.nilFunc, .func (.func 68) #[] #[], .func (.func 69) #[] #[], .func (.func 70) #[] #[], .func (.func 71) #[] #[]]) := range_far (range_grew HKw.out gg) g8 (fun h => NE.out.2.1 (by injection h))
                    have gE : Grew w w8 := (gW.trans gg).grown g8 (fun y hy => by injection hy with hy; have := NE.out.2.2.2.1; omega)
                    clear hC HT8 g8 gg g7 HTw HMw HKw HXw gW
                    refine wpAny_rest (fun _ _ _ _ _ h => h) [] (by kernel_rfl) (by kernel_rfl) (by kernel_rfl) rfl (TakeAll.nil ?_)
                    go_wp2_with fail
                    go_roundw
                    case rel => exact ⟨k + 1, by omega, by go_num, HK2, HM2, HT2, HK8, gE⟩
                    case measure => simp [intOf]; omega
                  · have hC : ∀ w', Grew w5.drew w' → (w'.cell? ⟨w2.heap.size, 0, none⟩ = some (.int .i64 x.q) ∧ w'.cell? ⟨w2.heap.size, 1, none⟩ = some (.int .i64 x.id) ∧ w'.cell? ⟨w2.heap.size, 2, none⟩ = some (.int .i64 2) ∧ w'.cell? ⟨w2.heap.size, 3, none⟩ = some (.int .i64 x.c) ∧ w'.cell? ⟨w2.heap.size, 4, none⟩ = some (.int .i64 x.d)) ∧ w'.cell? ⟨bk, 2, none⟩ = some (.func (.func 69) #[] #[]) := fun w' g' => by
                      have gg := (Grew.refl w5).drew.trans g'
                      have h1 := a_cells0 (range_grew HXw.out gg)
                      have h2 := range_grew HKw.out gg 2 _ rfl
                      rw [hk1] at h1
                      rw [Nat.zero_add] at h2
                      exact ⟨h1, h2⟩
                    have HF : Hid (effF x.k = 69) := by unfold Hid; rw [hk1]; rfl
                    clear hk1
                    go_wp2_with fail
                    refine wp_region_G (G := Grew) (by kernel_rfl) Grew.refl 10 ?_
                    refine wpAnyG_takes Grew.refl (fun _ _ _ => Grew.trans) (fun _ _ _ _ _ h => h) [0, 1, 2, 3, 4, 5, 6, 7, 8, 9] (fuel' := 1) (by kernel_rfl) (by kernel_rfl) (by simp only [pickOps, List.getElem?_toArray, List.getElem?_cons_zero, List.getElem?_cons_succ]; rfl) ?_
                    repeat (first
                      | (refine TakeAll.pure (v := ?_) (by rfl) ?_ ?_; rotate_left; (intro w' g'; obtain ⟨⟨a0, a1, a2, a3, a4⟩, aR⟩ := hC w' g'; go_simp; first | done | with_reducible rfl); (simp only [Act.put, List.setIfInBounds_toArray, List.set_cons_zero, List.set_cons_succ]))
                      | (refine TakeAll.skip (by rfl) ?_; (simp only [Act.put, List.setIfInBounds_toArray, List.set_cons_zero, List.set_cons_succ])))
                    refine TakeAll.nil ?_
                    refine wpAnyG_end (by kernel_rfl) (fuel' := 0) (by kernel_rfl) (by simp only [pickOps, List.getElem?_toArray, List.getElem?_cons_zero, List.getElem?_cons_succ]; rfl) rfl ?_
                    intro w7 g7 K hK
                    have gg := (Grew.refl w5).drew.trans g7
                    refine wp_call 69 #[.pointer (some ⟨g, j * 4, none⟩), .int .i64 x.c] (by go_simp; first | done | rfl) ?_
                    refine (eff_val (a := x) HF.out (ans_k HGA.out) (HTw.out.grew gg) HTJ.out (fun z hz => ?_)).mono ?_
                    · simp only [List.mem_cons, List.not_mem_nil, or_false] at hz
                      rcases hz with rfl | rfl | rfl | rfl | rfl
                      · have := HBD.out _ (.head _); omega
                      · have := HBD.out _ (.tail _ (.head _)); omega
                      · have := HBD.out _ (.tail _ (.tail _ (.head _))); omega
                      · have := HBD.out _ (.tail _ (.tail _ (.tail _ (.head _)))); omega
                      · omega
                    rintro e w8 ⟨rfl, HT8, g8⟩
                    refine ⟨_, rfl, hK _ _ ?_⟩
                    clear hK K
                    rw [HRD2.out] at HT8
                    have HT2 := Lib.hid HT8
                    have HM2 := Lib.hid ((HMw.out.grew gg).kept g8 (fun h => NE.out.1 (by injection h)))
                    have HK8 : Hid (w8.rangeAt bk 0 [.nilFunc, .func (.func 68) #[] #[], .func (.func 69) #[] #[], .func (.func 70) #[] #[], .func (.func 71) #[] #[]]) := range_far (range_grew HKw.out gg) g8 (fun h => NE.out.2.1 (by injection h))
                    have gE : Grew w w8 := (gW.trans gg).grown g8 (fun y hy => by injection hy with hy; have := NE.out.2.2.2.1; omega)
                    clear hC HT8 g8 gg g7 HTw HMw HKw HXw gW
                    refine wpAny_rest (fun _ _ _ _ _ h => h) [] (by kernel_rfl) (by kernel_rfl) (by kernel_rfl) rfl (TakeAll.nil ?_)
                    go_wp2_with fail
                    go_roundw
                    case rel => exact ⟨k + 1, by omega, by go_num, HK2, HM2, HT2, HK8, gE⟩
                    case measure => simp [intOf]; omega
                  · have hC : ∀ w', Grew w5.drew w' → (w'.cell? ⟨w2.heap.size, 0, none⟩ = some (.int .i64 x.q) ∧ w'.cell? ⟨w2.heap.size, 1, none⟩ = some (.int .i64 x.id) ∧ w'.cell? ⟨w2.heap.size, 2, none⟩ = some (.int .i64 3) ∧ w'.cell? ⟨w2.heap.size, 3, none⟩ = some (.int .i64 x.c) ∧ w'.cell? ⟨w2.heap.size, 4, none⟩ = some (.int .i64 x.d)) ∧ w'.cell? ⟨bk, 3, none⟩ = some (.func (.func 70) #[] #[]) := fun w' g' => by
                      have gg := (Grew.refl w5).drew.trans g'
                      have h1 := a_cells0 (range_grew HXw.out gg)
                      have h2 := range_grew HKw.out gg 3 _ rfl
                      rw [hk1] at h1
                      rw [Nat.zero_add] at h2
                      exact ⟨h1, h2⟩
                    have HF : Hid (effF x.k = 70) := by unfold Hid; rw [hk1]; rfl
                    clear hk1
                    go_wp2_with fail
                    refine wp_region_G (G := Grew) (by kernel_rfl) Grew.refl 10 ?_
                    refine wpAnyG_takes Grew.refl (fun _ _ _ => Grew.trans) (fun _ _ _ _ _ h => h) [0, 1, 2, 3, 4, 5, 6, 7, 8, 9] (fuel' := 1) (by kernel_rfl) (by kernel_rfl) (by simp only [pickOps, List.getElem?_toArray, List.getElem?_cons_zero, List.getElem?_cons_succ]; rfl) ?_
                    repeat (first
                      | (refine TakeAll.pure (v := ?_) (by rfl) ?_ ?_; rotate_left; (intro w' g'; obtain ⟨⟨a0, a1, a2, a3, a4⟩, aR⟩ := hC w' g'; go_simp; first | done | with_reducible rfl); (simp only [Act.put, List.setIfInBounds_toArray, List.set_cons_zero, List.set_cons_succ]))
                      | (refine TakeAll.skip (by rfl) ?_; (simp only [Act.put, List.setIfInBounds_toArray, List.set_cons_zero, List.set_cons_succ])))
                    refine TakeAll.nil ?_
                    refine wpAnyG_end (by kernel_rfl) (fuel' := 0) (by kernel_rfl) (by simp only [pickOps, List.getElem?_toArray, List.getElem?_cons_zero, List.getElem?_cons_succ]; rfl) rfl ?_
                    intro w7 g7 K hK
                    have gg := (Grew.refl w5).drew.trans g7
                    refine wp_call 70 #[.pointer (some ⟨g, j * 4, none⟩), .int .i64 x.c] (by go_simp; first | done | rfl) ?_
                    refine (eff_val (a := x) HF.out (ans_k HGA.out) (HTw.out.grew gg) HTJ.out (fun z hz => ?_)).mono ?_
                    · simp only [List.mem_cons, List.not_mem_nil, or_false] at hz
                      rcases hz with rfl | rfl | rfl | rfl | rfl
                      · have := HBD.out _ (.head _); omega
                      · have := HBD.out _ (.tail _ (.head _)); omega
                      · have := HBD.out _ (.tail _ (.tail _ (.head _))); omega
                      · have := HBD.out _ (.tail _ (.tail _ (.tail _ (.head _)))); omega
                      · omega
                    rintro e w8 ⟨rfl, HT8, g8⟩
                    refine ⟨_, rfl, hK _ _ ?_⟩
                    clear hK K
                    rw [HRD2.out] at HT8
                    have HT2 := Lib.hid HT8
                    have HM2 := Lib.hid ((HMw.out.grew gg).kept g8 (fun h => NE.out.1 (by injection h)))
                    have HK8 : Hid (w8.rangeAt bk 0 [.nilFunc, .func (.func 68) #[] #[], .func (.func 69) #[] #[], .func (.func 70) #[] #[], .func (.func 71) #[] #[]]) := range_far (range_grew HKw.out gg) g8 (fun h => NE.out.2.1 (by injection h))
                    have gE : Grew w w8 := (gW.trans gg).grown g8 (fun y hy => by injection hy with hy; have := NE.out.2.2.2.1; omega)
                    clear hC HT8 g8 gg g7 HTw HMw HKw HXw gW
                    refine wpAny_rest (fun _ _ _ _ _ h => h) [] (by kernel_rfl) (by kernel_rfl) (by kernel_rfl) rfl (TakeAll.nil ?_)
                    go_wp2_with fail
                    go_roundw
                    case rel => exact ⟨k + 1, by omega, by go_num, HK2, HM2, HT2, HK8, gE⟩
                    case measure => simp [intOf]; omega
                  · have hC : ∀ w', Grew w5.drew w' → (w'.cell? ⟨w2.heap.size, 0, none⟩ = some (.int .i64 x.q) ∧ w'.cell? ⟨w2.heap.size, 1, none⟩ = some (.int .i64 x.id) ∧ w'.cell? ⟨w2.heap.size, 2, none⟩ = some (.int .i64 4) ∧ w'.cell? ⟨w2.heap.size, 3, none⟩ = some (.int .i64 x.c) ∧ w'.cell? ⟨w2.heap.size, 4, none⟩ = some (.int .i64 x.d)) ∧ w'.cell? ⟨bk, 4, none⟩ = some (.func (.func 71) #[] #[]) := fun w' g' => by
                      have gg := (Grew.refl w5).drew.trans g'
                      have h1 := a_cells0 (range_grew HXw.out gg)
                      have h2 := range_grew HKw.out gg 4 _ rfl
                      rw [hk1] at h1
                      rw [Nat.zero_add] at h2
                      exact ⟨h1, h2⟩
                    have HF : Hid (effF x.k = 71) := by unfold Hid; rw [hk1]; rfl
                    clear hk1
                    go_wp2_with fail
                    refine wp_region_G (G := Grew) (by kernel_rfl) Grew.refl 10 ?_
                    refine wpAnyG_takes Grew.refl (fun _ _ _ => Grew.trans) (fun _ _ _ _ _ h => h) [0, 1, 2, 3, 4, 5, 6, 7, 8, 9] (fuel' := 1) (by kernel_rfl) (by kernel_rfl) (by simp only [pickOps, List.getElem?_toArray, List.getElem?_cons_zero, List.getElem?_cons_succ]; rfl) ?_
                    repeat (first
                      | (refine TakeAll.pure (v := ?_) (by rfl) ?_ ?_; rotate_left; (intro w' g'; obtain ⟨⟨a0, a1, a2, a3, a4⟩, aR⟩ := hC w' g'; go_simp; first | done | with_reducible rfl); (simp only [Act.put, List.setIfInBounds_toArray, List.set_cons_zero, List.set_cons_succ]))
                      | (refine TakeAll.skip (by rfl) ?_; (simp only [Act.put, List.setIfInBounds_toArray, List.set_cons_zero, List.set_cons_succ])))
                    refine TakeAll.nil ?_
                    refine wpAnyG_end (by kernel_rfl) (fuel' := 0) (by kernel_rfl) (by simp only [pickOps, List.getElem?_toArray, List.getElem?_cons_zero, List.getElem?_cons_succ]; rfl) rfl ?_
                    intro w7 g7 K hK
                    have gg := (Grew.refl w5).drew.trans g7
                    refine wp_call 71 #[.pointer (some ⟨g, j * 4, none⟩), .int .i64 x.c] (by go_simp; first | done | rfl) ?_
                    refine (eff_val (a := x) HF.out (ans_k HGA.out) (HTw.out.grew gg) HTJ.out (fun z hz => ?_)).mono ?_
                    · simp only [List.mem_cons, List.not_mem_nil, or_false] at hz
                      rcases hz with rfl | rfl | rfl | rfl | rfl
                      · have := HBD.out _ (.head _); omega
                      · have := HBD.out _ (.tail _ (.head _)); omega
                      · have := HBD.out _ (.tail _ (.tail _ (.head _))); omega
                      · have := HBD.out _ (.tail _ (.tail _ (.tail _ (.head _)))); omega
                      · omega
                    rintro e w8 ⟨rfl, HT8, g8⟩
                    refine ⟨_, rfl, hK _ _ ?_⟩
                    clear hK K
                    rw [HRD2.out] at HT8
                    have HT2 := Lib.hid HT8
                    have HM2 := Lib.hid ((HMw.out.grew gg).kept g8 (fun h => NE.out.1 (by injection h)))
                    have HK8 : Hid (w8.rangeAt bk 0 [.nilFunc, .func (.func 68) #[] #[], .func (.func 69) #[] #[], .func (.func 70) #[] #[], .func (.func 71) #[] #[]]) := range_far (range_grew HKw.out gg) g8 (fun h => NE.out.2.1 (by injection h))
                    have gE : Grew w w8 := (gW.trans gg).grown g8 (fun y hy => by injection hy with hy; have := NE.out.2.2.2.1; omega)
                    clear hC HT8 g8 gg g7 HTw HMw HKw HXw gW
                    refine wpAny_rest (fun _ _ _ _ _ h => h) [] (by kernel_rfl) (by kernel_rfl) (by kernel_rfl) rfl (TakeAll.nil ?_)
                    go_wp2_with fail
                    go_roundw
                    case rel => exact ⟨k + 1, by omega, by go_num, HK2, HM2, HT2, HK8, gE⟩
                    case measure => simp [intOf]; omega
                · have q0 : decide (0 < k) = true := decide_eq_true (by omega)
                  have q0' : decide (0 < (k : Int)) = true := decide_eq_true (by omega)
                  obtain ⟨y, hy⟩ : ∃ y, zs[k - 1]? = some y := ⟨_, List.getElem?_eq_getElem (by rw [HLA.out]; omega)⟩
                  have HRY := Lib.hid (HRY0.out y (by omega) hy)
                  have m1 : IntKind.i64.wrap ((k : Int) - 1) = (k : Int) - 1 := IntWalk.i64_in _ (by omega)
                  have m2 : ((k : Int) - 1).toNat = k - 1 := by omega
                  have m3 : (0 : Int) ≤ (k : Int) - 1 := by omega
                  have m3' : (1 : Int) ≤ (k : Int) := by omega
                  have m4 : (k : Int) - 1 < (m : Int) := by omega
                  clear hC
                  have hC : ∀ w', Grew wa.drew w' → (w'.cell? ⟨w2.heap.size, 0, none⟩ = some (.int .i64 x.q) ∧ w'.cell? ⟨w2.heap.size, 1, none⟩ = some (.int .i64 x.id) ∧ w'.cell? ⟨w2.heap.size, 2, none⟩ = some (.int .i64 x.k) ∧ w'.cell? ⟨w2.heap.size, 3, none⟩ = some (.int .i64 x.c) ∧ w'.cell? ⟨w2.heap.size, 4, none⟩ = some (.int .i64 x.d)) ∧ w'.cell? ⟨bp, op + j * 4 + 3, none⟩ = some (.int .i64 p.d) ∧ w'.cell? ⟨b, o + (k - 1) * 5, none⟩ = some (.int .i64 y.q) := fun w' g' =>
                    ⟨a_cells0 (range_grew HRX.out ((Grew.refl wa).drew.trans g')), (p_cells (range_grew HRP.out ((Grew.refl wa).drew.trans g'))).2.2.2, (a_cells (range_grew HRY.out ((Grew.refl wa).drew.trans g'))).1⟩
                  by_cases hq : y.q < x.q
                  · have q2 : decide (x.q ≤ y.q) = false := decide_eq_false (by omega)
                    have HK2 : Hid (asB ps zs (k + 1) = true) := asB_succ HK.out HX.out HGA.out HDY.out (prev_pos (by omega) hy (decide_eq_true hq))
                    clear h0 hd hy hq
                    go_upto_region 15 with (fail)
                    rw [← hwa]
                    clear hwa c0 c1 c2 c3 c4
                    go_wp2_with fail
                    clear x0 x1 x2 x3 x4 hlk
                    refine wp_region_seq (by kernel_rfl) Grew.refl (fun _ _ _ => Grew.trans) (fun _ _ _ _ _ h => h) (by kernel_rfl) ?_
                    repeat (first
                      | (refine TakeAll.pure (v := ?_) (by rfl) ?_ ?_; rotate_left; (intro w' g'; obtain ⟨⟨a0, a1, a2, a3, a4⟩, aR, aQ⟩ := hC w' g'; go_simp; first | done | with_reducible rfl); (simp only [Act.put, List.setIfInBounds_toArray, List.set_cons_zero, List.set_cons_succ]))
                      | (refine TakeAll.skip (by rfl) ?_; (simp only [Act.put, List.setIfInBounds_toArray, List.set_cons_zero, List.set_cons_succ])))
                    refine TakeAll.call (by rfl) 36 _ (fun w' => by have c := hC0 w'; go_simp; first | done | rfl) (fun w' g' => ans_val HGA.out _) ?_
                    simp only [Act.put, List.setIfInBounds_toArray, List.set_cons_zero, List.set_cons_succ]
                    repeat (first
                      | (refine TakeAll.pure (v := ?_) (by rfl) ?_ ?_; rotate_left; (intro w' g'; obtain ⟨⟨a0, a1, a2, a3, a4⟩, aR, aQ⟩ := hC w' g'; go_simp; first | done | with_reducible rfl); (simp only [Act.put, List.setIfInBounds_toArray, List.set_cons_zero, List.set_cons_succ]))
                      | (refine TakeAll.skip (by rfl) ?_; (simp only [Act.put, List.setIfInBounds_toArray, List.set_cons_zero, List.set_cons_succ])))
                    refine TakeAll.nil ?_
                    intro w5 g5
                    clear m1 m2 m3 m3' m4 q2 HRY
                    have HMw := Lib.hid (HMA.out.grew ((Grew.refl wa).drew.trans g5))
                    have HTw := Lib.hid (HTA.out.grew ((Grew.refl wa).drew.trans g5))
                    have HKw : Hid (w5.rangeAt bk 0 [.nilFunc, .func (.func 68) #[] #[], .func (.func 69) #[] #[], .func (.func 70) #[] #[], .func (.func 71) #[] #[]]) := range_grew HKA.out ((Grew.refl wa).drew.trans g5)
                    have HXw := Lib.hid (range_grew HRX.out ((Grew.refl wa).drew.trans g5))
                    have gW := gA.trans ((Grew.refl wa).drew.trans g5)
                    have HTJ : Hid ((ps.map fun p => tal p.id (zs.take k))[j]? = some (tal p.id (zs.take k))) := by unfold Hid; rw [List.getElem?_map, hp]; rfl
                    have HRD := tal_round HPS.out hp HX.out he
                    have HRD2 := Lib.hid HRD
                    have HBD := Lib.hid (tal_bound HK.out (by omega) p.id)
                    have hcx := ans_c HGA.out
                    have jj0 : (0 : Int) ≤ (j : Int) := by omega
                    have jj1 : (j : Int) < (n : Int) := by omega
                    clear HRD hC hC0 g5 HRX HMA HTA HKA HRP gA
                    rcases ans_k HGA.out with hk1 | hk1 | hk1 | hk1
                    · have hC : ∀ w', Grew w5.drew w' → (w'.cell? ⟨w2.heap.size, 0, none⟩ = some (.int .i64 x.q) ∧ w'.cell? ⟨w2.heap.size, 1, none⟩ = some (.int .i64 x.id) ∧ w'.cell? ⟨w2.heap.size, 2, none⟩ = some (.int .i64 1) ∧ w'.cell? ⟨w2.heap.size, 3, none⟩ = some (.int .i64 x.c) ∧ w'.cell? ⟨w2.heap.size, 4, none⟩ = some (.int .i64 x.d)) ∧ w'.cell? ⟨bk, 1, none⟩ = some (.func (.func 68) #[] #[]) := fun w' g' => by
                        have gg := (Grew.refl w5).drew.trans g'
                        have h1 := a_cells0 (range_grew HXw.out gg)
                        have h2 := range_grew HKw.out gg 1 _ rfl
                        rw [hk1] at h1
                        rw [Nat.zero_add] at h2
                        exact ⟨h1, h2⟩
                      have HF : Hid (effF x.k = 68) := by unfold Hid; rw [hk1]; rfl
                      clear hk1
                      go_wp2_with fail
                      refine wp_region_G (G := Grew) (by kernel_rfl) Grew.refl 10 ?_
                      refine wpAnyG_takes Grew.refl (fun _ _ _ => Grew.trans) (fun _ _ _ _ _ h => h) [0, 1, 2, 3, 4, 5, 6, 7, 8, 9] (fuel' := 1) (by kernel_rfl) (by kernel_rfl) (by simp only [pickOps, List.getElem?_toArray, List.getElem?_cons_zero, List.getElem?_cons_succ]; rfl) ?_
                      repeat (first
                        | (refine TakeAll.pure (v := ?_) (by rfl) ?_ ?_; rotate_left; (intro w' g'; obtain ⟨⟨a0, a1, a2, a3, a4⟩, aR⟩ := hC w' g'; go_simp; first | done | with_reducible rfl); (simp only [Act.put, List.setIfInBounds_toArray, List.set_cons_zero, List.set_cons_succ]))
                        | (refine TakeAll.skip (by rfl) ?_; (simp only [Act.put, List.setIfInBounds_toArray, List.set_cons_zero, List.set_cons_succ])))
                      refine TakeAll.nil ?_
                      refine wpAnyG_end (by kernel_rfl) (fuel' := 0) (by kernel_rfl) (by simp only [pickOps, List.getElem?_toArray, List.getElem?_cons_zero, List.getElem?_cons_succ]; rfl) rfl ?_
                      intro w7 g7 K hK
                      have gg := (Grew.refl w5).drew.trans g7
                      refine wp_call 68 #[.pointer (some ⟨g, j * 4, none⟩), .int .i64 x.c] (by go_simp; first | done | rfl) ?_
                      refine (eff_val (a := x) HF.out (ans_k HGA.out) (HTw.out.grew gg) HTJ.out (fun z hz => ?_)).mono ?_
                      · simp only [List.mem_cons, List.not_mem_nil, or_false] at hz
                        rcases hz with rfl | rfl | rfl | rfl | rfl
                        · have := HBD.out _ (.head _); omega
                        · have := HBD.out _ (.tail _ (.head _)); omega
                        · have := HBD.out _ (.tail _ (.tail _ (.head _))); omega
                        · have := HBD.out _ (.tail _ (.tail _ (.tail _ (.head _)))); omega
                        · omega
                      rintro e w8 ⟨rfl, HT8, g8⟩
                      refine ⟨_, rfl, hK _ _ ?_⟩
                      clear hK K
                      rw [HRD2.out] at HT8
                      have HT2 := Lib.hid HT8
                      have HM2 := Lib.hid ((HMw.out.grew gg).kept g8 (fun h => NE.out.1 (by injection h)))
                      have HK8 : Hid (w8.rangeAt bk 0 [.nilFunc, .func (.func 68) #[] #[], .func (.func 69) #[] #[], .func (.func 70) #[] #[], .func (.func 71) #[] #[]]) := range_far (range_grew HKw.out gg) g8 (fun h => NE.out.2.1 (by injection h))
                      have gE : Grew w w8 := (gW.trans gg).grown g8 (fun y hy => by injection hy with hy; have := NE.out.2.2.2.1; omega)
                      clear hC HT8 g8 gg g7 HTw HMw HKw HXw gW
                      refine wpAny_rest (fun _ _ _ _ _ h => h) [] (by kernel_rfl) (by kernel_rfl) (by kernel_rfl) rfl (TakeAll.nil ?_)
                      go_wp2_with fail
                      go_roundw
                      case rel => exact ⟨k + 1, by omega, by go_num, HK2, HM2, HT2, HK8, gE⟩
                      case measure => simp [intOf]; omega
                    · have hC : ∀ w', Grew w5.drew w' → (w'.cell? ⟨w2.heap.size, 0, none⟩ = some (.int .i64 x.q) ∧ w'.cell? ⟨w2.heap.size, 1, none⟩ = some (.int .i64 x.id) ∧ w'.cell? ⟨w2.heap.size, 2, none⟩ = some (.int .i64 2) ∧ w'.cell? ⟨w2.heap.size, 3, none⟩ = some (.int .i64 x.c) ∧ w'.cell? ⟨w2.heap.size, 4, none⟩ = some (.int .i64 x.d)) ∧ w'.cell? ⟨bk, 2, none⟩ = some (.func (.func 69) #[] #[]) := fun w' g' => by
                        have gg := (Grew.refl w5).drew.trans g'
                        have h1 := a_cells0 (range_grew HXw.out gg)
                        have h2 := range_grew HKw.out gg 2 _ rfl
                        rw [hk1] at h1
                        rw [Nat.zero_add] at h2
                        exact ⟨h1, h2⟩
                      have HF : Hid (effF x.k = 69) := by unfold Hid; rw [hk1]; rfl
                      clear hk1
                      go_wp2_with fail
                      refine wp_region_G (G := Grew) (by kernel_rfl) Grew.refl 10 ?_
                      refine wpAnyG_takes Grew.refl (fun _ _ _ => Grew.trans) (fun _ _ _ _ _ h => h) [0, 1, 2, 3, 4, 5, 6, 7, 8, 9] (fuel' := 1) (by kernel_rfl) (by kernel_rfl) (by simp only [pickOps, List.getElem?_toArray, List.getElem?_cons_zero, List.getElem?_cons_succ]; rfl) ?_
                      repeat (first
                        | (refine TakeAll.pure (v := ?_) (by rfl) ?_ ?_; rotate_left; (intro w' g'; obtain ⟨⟨a0, a1, a2, a3, a4⟩, aR⟩ := hC w' g'; go_simp; first | done | with_reducible rfl); (simp only [Act.put, List.setIfInBounds_toArray, List.set_cons_zero, List.set_cons_succ]))
                        | (refine TakeAll.skip (by rfl) ?_; (simp only [Act.put, List.setIfInBounds_toArray, List.set_cons_zero, List.set_cons_succ])))
                      refine TakeAll.nil ?_
                      refine wpAnyG_end (by kernel_rfl) (fuel' := 0) (by kernel_rfl) (by simp only [pickOps, List.getElem?_toArray, List.getElem?_cons_zero, List.getElem?_cons_succ]; rfl) rfl ?_
                      intro w7 g7 K hK
                      have gg := (Grew.refl w5).drew.trans g7
                      refine wp_call 69 #[.pointer (some ⟨g, j * 4, none⟩), .int .i64 x.c] (by go_simp; first | done | rfl) ?_
                      refine (eff_val (a := x) HF.out (ans_k HGA.out) (HTw.out.grew gg) HTJ.out (fun z hz => ?_)).mono ?_
                      · simp only [List.mem_cons, List.not_mem_nil, or_false] at hz
                        rcases hz with rfl | rfl | rfl | rfl | rfl
                        · have := HBD.out _ (.head _); omega
                        · have := HBD.out _ (.tail _ (.head _)); omega
                        · have := HBD.out _ (.tail _ (.tail _ (.head _))); omega
                        · have := HBD.out _ (.tail _ (.tail _ (.tail _ (.head _)))); omega
                        · omega
                      rintro e w8 ⟨rfl, HT8, g8⟩
                      refine ⟨_, rfl, hK _ _ ?_⟩
                      clear hK K
                      rw [HRD2.out] at HT8
                      have HT2 := Lib.hid HT8
                      have HM2 := Lib.hid ((HMw.out.grew gg).kept g8 (fun h => NE.out.1 (by injection h)))
                      have HK8 : Hid (w8.rangeAt bk 0 [.nilFunc, .func (.func 68) #[] #[], .func (.func 69) #[] #[], .func (.func 70) #[] #[], .func (.func 71) #[] #[]]) := range_far (range_grew HKw.out gg) g8 (fun h => NE.out.2.1 (by injection h))
                      have gE : Grew w w8 := (gW.trans gg).grown g8 (fun y hy => by injection hy with hy; have := NE.out.2.2.2.1; omega)
                      clear hC HT8 g8 gg g7 HTw HMw HKw HXw gW
                      refine wpAny_rest (fun _ _ _ _ _ h => h) [] (by kernel_rfl) (by kernel_rfl) (by kernel_rfl) rfl (TakeAll.nil ?_)
                      go_wp2_with fail
                      go_roundw
                      case rel => exact ⟨k + 1, by omega, by go_num, HK2, HM2, HT2, HK8, gE⟩
                      case measure => simp [intOf]; omega
                    · have hC : ∀ w', Grew w5.drew w' → (w'.cell? ⟨w2.heap.size, 0, none⟩ = some (.int .i64 x.q) ∧ w'.cell? ⟨w2.heap.size, 1, none⟩ = some (.int .i64 x.id) ∧ w'.cell? ⟨w2.heap.size, 2, none⟩ = some (.int .i64 3) ∧ w'.cell? ⟨w2.heap.size, 3, none⟩ = some (.int .i64 x.c) ∧ w'.cell? ⟨w2.heap.size, 4, none⟩ = some (.int .i64 x.d)) ∧ w'.cell? ⟨bk, 3, none⟩ = some (.func (.func 70) #[] #[]) := fun w' g' => by
                        have gg := (Grew.refl w5).drew.trans g'
                        have h1 := a_cells0 (range_grew HXw.out gg)
                        have h2 := range_grew HKw.out gg 3 _ rfl
                        rw [hk1] at h1
                        rw [Nat.zero_add] at h2
                        exact ⟨h1, h2⟩
                      have HF : Hid (effF x.k = 70) := by unfold Hid; rw [hk1]; rfl
                      clear hk1
                      go_wp2_with fail
                      refine wp_region_G (G := Grew) (by kernel_rfl) Grew.refl 10 ?_
                      refine wpAnyG_takes Grew.refl (fun _ _ _ => Grew.trans) (fun _ _ _ _ _ h => h) [0, 1, 2, 3, 4, 5, 6, 7, 8, 9] (fuel' := 1) (by kernel_rfl) (by kernel_rfl) (by simp only [pickOps, List.getElem?_toArray, List.getElem?_cons_zero, List.getElem?_cons_succ]; rfl) ?_
                      repeat (first
                        | (refine TakeAll.pure (v := ?_) (by rfl) ?_ ?_; rotate_left; (intro w' g'; obtain ⟨⟨a0, a1, a2, a3, a4⟩, aR⟩ := hC w' g'; go_simp; first | done | with_reducible rfl); (simp only [Act.put, List.setIfInBounds_toArray, List.set_cons_zero, List.set_cons_succ]))
                        | (refine TakeAll.skip (by rfl) ?_; (simp only [Act.put, List.setIfInBounds_toArray, List.set_cons_zero, List.set_cons_succ])))
                      refine TakeAll.nil ?_
                      refine wpAnyG_end (by kernel_rfl) (fuel' := 0) (by kernel_rfl) (by simp only [pickOps, List.getElem?_toArray, List.getElem?_cons_zero, List.getElem?_cons_succ]; rfl) rfl ?_
                      intro w7 g7 K hK
                      have gg := (Grew.refl w5).drew.trans g7
                      refine wp_call 70 #[.pointer (some ⟨g, j * 4, none⟩), .int .i64 x.c] (by go_simp; first | done | rfl) ?_
                      refine (eff_val (a := x) HF.out (ans_k HGA.out) (HTw.out.grew gg) HTJ.out (fun z hz => ?_)).mono ?_
                      · simp only [List.mem_cons, List.not_mem_nil, or_false] at hz
                        rcases hz with rfl | rfl | rfl | rfl | rfl
                        · have := HBD.out _ (.head _); omega
                        · have := HBD.out _ (.tail _ (.head _)); omega
                        · have := HBD.out _ (.tail _ (.tail _ (.head _))); omega
                        · have := HBD.out _ (.tail _ (.tail _ (.tail _ (.head _)))); omega
                        · omega
                      rintro e w8 ⟨rfl, HT8, g8⟩
                      refine ⟨_, rfl, hK _ _ ?_⟩
                      clear hK K
                      rw [HRD2.out] at HT8
                      have HT2 := Lib.hid HT8
                      have HM2 := Lib.hid ((HMw.out.grew gg).kept g8 (fun h => NE.out.1 (by injection h)))
                      have HK8 : Hid (w8.rangeAt bk 0 [.nilFunc, .func (.func 68) #[] #[], .func (.func 69) #[] #[], .func (.func 70) #[] #[], .func (.func 71) #[] #[]]) := range_far (range_grew HKw.out gg) g8 (fun h => NE.out.2.1 (by injection h))
                      have gE : Grew w w8 := (gW.trans gg).grown g8 (fun y hy => by injection hy with hy; have := NE.out.2.2.2.1; omega)
                      clear hC HT8 g8 gg g7 HTw HMw HKw HXw gW
                      refine wpAny_rest (fun _ _ _ _ _ h => h) [] (by kernel_rfl) (by kernel_rfl) (by kernel_rfl) rfl (TakeAll.nil ?_)
                      go_wp2_with fail
                      go_roundw
                      case rel => exact ⟨k + 1, by omega, by go_num, HK2, HM2, HT2, HK8, gE⟩
                      case measure => simp [intOf]; omega
                    · have hC : ∀ w', Grew w5.drew w' → (w'.cell? ⟨w2.heap.size, 0, none⟩ = some (.int .i64 x.q) ∧ w'.cell? ⟨w2.heap.size, 1, none⟩ = some (.int .i64 x.id) ∧ w'.cell? ⟨w2.heap.size, 2, none⟩ = some (.int .i64 4) ∧ w'.cell? ⟨w2.heap.size, 3, none⟩ = some (.int .i64 x.c) ∧ w'.cell? ⟨w2.heap.size, 4, none⟩ = some (.int .i64 x.d)) ∧ w'.cell? ⟨bk, 4, none⟩ = some (.func (.func 71) #[] #[]) := fun w' g' => by
                        have gg := (Grew.refl w5).drew.trans g'
                        have h1 := a_cells0 (range_grew HXw.out gg)
                        have h2 := range_grew HKw.out gg 4 _ rfl
                        rw [hk1] at h1
                        rw [Nat.zero_add] at h2
                        exact ⟨h1, h2⟩
                      have HF : Hid (effF x.k = 71) := by unfold Hid; rw [hk1]; rfl
                      clear hk1
                      go_wp2_with fail
                      refine wp_region_G (G := Grew) (by kernel_rfl) Grew.refl 10 ?_
                      refine wpAnyG_takes Grew.refl (fun _ _ _ => Grew.trans) (fun _ _ _ _ _ h => h) [0, 1, 2, 3, 4, 5, 6, 7, 8, 9] (fuel' := 1) (by kernel_rfl) (by kernel_rfl) (by simp only [pickOps, List.getElem?_toArray, List.getElem?_cons_zero, List.getElem?_cons_succ]; rfl) ?_
                      repeat (first
                        | (refine TakeAll.pure (v := ?_) (by rfl) ?_ ?_; rotate_left; (intro w' g'; obtain ⟨⟨a0, a1, a2, a3, a4⟩, aR⟩ := hC w' g'; go_simp; first | done | with_reducible rfl); (simp only [Act.put, List.setIfInBounds_toArray, List.set_cons_zero, List.set_cons_succ]))
                        | (refine TakeAll.skip (by rfl) ?_; (simp only [Act.put, List.setIfInBounds_toArray, List.set_cons_zero, List.set_cons_succ])))
                      refine TakeAll.nil ?_
                      refine wpAnyG_end (by kernel_rfl) (fuel' := 0) (by kernel_rfl) (by simp only [pickOps, List.getElem?_toArray, List.getElem?_cons_zero, List.getElem?_cons_succ]; rfl) rfl ?_
                      intro w7 g7 K hK
                      have gg := (Grew.refl w5).drew.trans g7
                      refine wp_call 71 #[.pointer (some ⟨g, j * 4, none⟩), .int .i64 x.c] (by go_simp; first | done | rfl) ?_
                      refine (eff_val (a := x) HF.out (ans_k HGA.out) (HTw.out.grew gg) HTJ.out (fun z hz => ?_)).mono ?_
                      · simp only [List.mem_cons, List.not_mem_nil, or_false] at hz
                        rcases hz with rfl | rfl | rfl | rfl | rfl
                        · have := HBD.out _ (.head _); omega
                        · have := HBD.out _ (.tail _ (.head _)); omega
                        · have := HBD.out _ (.tail _ (.tail _ (.head _))); omega
                        · have := HBD.out _ (.tail _ (.tail _ (.tail _ (.head _)))); omega
                        · omega
                      rintro e w8 ⟨rfl, HT8, g8⟩
                      refine ⟨_, rfl, hK _ _ ?_⟩
                      clear hK K
                      rw [HRD2.out] at HT8
                      have HT2 := Lib.hid HT8
                      have HM2 := Lib.hid ((HMw.out.grew gg).kept g8 (fun h => NE.out.1 (by injection h)))
                      have HK8 : Hid (w8.rangeAt bk 0 [.nilFunc, .func (.func 68) #[] #[], .func (.func 69) #[] #[], .func (.func 70) #[] #[], .func (.func 71) #[] #[]]) := range_far (range_grew HKw.out gg) g8 (fun h => NE.out.2.1 (by injection h))
                      have gE : Grew w w8 := (gW.trans gg).grown g8 (fun y hy => by injection hy with hy; have := NE.out.2.2.2.1; omega)
                      clear hC HT8 g8 gg g7 HTw HMw HKw HXw gW
                      refine wpAny_rest (fun _ _ _ _ _ h => h) [] (by kernel_rfl) (by kernel_rfl) (by kernel_rfl) rfl (TakeAll.nil ?_)
                      go_wp2_with fail
                      go_roundw
                      case rel => exact ⟨k + 1, by omega, by go_num, HK2, HM2, HT2, HK8, gE⟩
                      case measure => simp [intOf]; omega
                  · have q2 : decide (x.q ≤ y.q) = true := decide_eq_true (by omega)
                    have HB : Hid (standOk ps zs = false) := by unfold Hid standOk; rw [asB_bad (by rw [HLA.out]; exact hlt) HX.out (.inr (.inr (prev_pos (by omega) hy (decide_eq_false hq)))), Bool.and_false, Bool.false_and]
                    clear h0 hd hy hq
                    go_upto_region 15 with (fail)
                    rw [← hwa]
                    clear hwa c0 c1 c2 c3 c4
                    go_wp2_with fail
                    clear x0 x1 x2 x3 x4 hlk
                    refine wp_region_seq (by kernel_rfl) Grew.refl (fun _ _ _ => Grew.trans) (fun _ _ _ _ _ h => h) (by kernel_rfl) ?_
                    repeat (first
                      | (refine TakeAll.pure (v := ?_) (by rfl) ?_ ?_; rotate_left; (intro w' g'; obtain ⟨⟨a0, a1, a2, a3, a4⟩, aR, aQ⟩ := hC w' g'; go_simp; first | done | with_reducible rfl); (simp only [Act.put, List.setIfInBounds_toArray, List.set_cons_zero, List.set_cons_succ]))
                      | (refine TakeAll.skip (by rfl) ?_; (simp only [Act.put, List.setIfInBounds_toArray, List.set_cons_zero, List.set_cons_succ])))
                    refine TakeAll.call (by rfl) 36 _ (fun w' => by have c := hC0 w'; go_simp; first | done | rfl) (fun w' g' => ans_val HGA.out _) ?_
                    simp only [Act.put, List.setIfInBounds_toArray, List.set_cons_zero, List.set_cons_succ]
                    repeat (first
                      | (refine TakeAll.pure (v := ?_) (by rfl) ?_ ?_; rotate_left; (intro w' g'; obtain ⟨⟨a0, a1, a2, a3, a4⟩, aR, aQ⟩ := hC w' g'; go_simp; first | done | with_reducible rfl); (simp only [Act.put, List.setIfInBounds_toArray, List.set_cons_zero, List.set_cons_succ]))
                      | (refine TakeAll.skip (by rfl) ?_; (simp only [Act.put, List.setIfInBounds_toArray, List.set_cons_zero, List.set_cons_succ])))
                    refine TakeAll.nil ?_
                    intro w5 g5
                    clear hC hC0
                    go_wp2_with fail
                    refine bodyPost_ret (results_tmp2 rfl _ _ _) rfl ?_
                    exact .inl ⟨HB.out, rfl, gA.trans ((Grew.refl wa).drew.trans g5)⟩
              · have qd : decide (x.d < p.d) = true := decide_eq_true (by omega)
                have HB : Hid (standOk ps zs = false) := by unfold Hid standOk; rw [asB_bad (by rw [HLA.out]; exact hlt) HX.out (.inr (.inl (dayAt HFN.out (decide_eq_false hd)))), Bool.and_false, Bool.false_and]
                clear hd
                go_upto_region 15 with (fail)
                rw [← hwa]
                clear hwa c0 c1 c2 c3 c4 
                go_wp2_with fail
                clear x0 x1 x2 x3 x4 hlk
                refine wp_region_seq (by kernel_rfl) Grew.refl (fun _ _ _ => Grew.trans) (fun _ _ _ _ _ h => h) (by kernel_rfl) ?_
                repeat (first
                  | (refine TakeAll.pure (v := ?_) (by rfl) ?_ ?_; rotate_left; (intro w' g'; obtain ⟨⟨a0, a1, a2, a3, a4⟩, aR⟩ := hC w' g'; go_simp; first | done | with_reducible rfl); (simp only [Act.put, List.setIfInBounds_toArray, List.set_cons_zero, List.set_cons_succ]))
                  | (refine TakeAll.skip (by rfl) ?_; (simp only [Act.put, List.setIfInBounds_toArray, List.set_cons_zero, List.set_cons_succ])))
                refine TakeAll.call (by rfl) 36 _ (fun w' => by have c := hC0 w'; go_simp; first | done | rfl) (fun w' g' => ans_val HGA.out _) ?_
                simp only [Act.put, List.setIfInBounds_toArray, List.set_cons_zero, List.set_cons_succ]
                repeat (first
                  | (refine TakeAll.pure (v := ?_) (by rfl) ?_ ?_; rotate_left; (intro w' g'; obtain ⟨⟨a0, a1, a2, a3, a4⟩, aR⟩ := hC w' g'; go_simp; first | done | with_reducible rfl); (simp only [Act.put, List.setIfInBounds_toArray, List.set_cons_zero, List.set_cons_succ]))
                  | (refine TakeAll.skip (by rfl) ?_; (simp only [Act.put, List.setIfInBounds_toArray, List.set_cons_zero, List.set_cons_succ])))
                refine TakeAll.nil ?_
                intro w5 g5
                clear hC hC0
                go_wp2_with fail
                refine bodyPost_ret (results_tmp2 rfl _ _ _) rfl ?_
                exact .inl ⟨HB.out, rfl, gA.trans ((Grew.refl wa).drew.trans g5)⟩
        · obtain rfl : m = k := by omega
          obtain ⟨i0, hi, hz0, hz1, hz2⟩ := info_parts info43
          have HTS : Hid (Blk te 111 w2 g (ps.map fun p => tal p.id zs)) := by
            have := HT.out
            rw [List.take_of_length_le (by rw [HLA.out]; exact Nat.le_refl _)] at this
            exact this
          have HAS : Hid (asB ps zs zs.length = true) := by unfold Hid; rw [HLA.out]; exact HK.out
          obtain ⟨B3, hB3⟩ : ∃ b, b = w2.heap.size := ⟨_, rfl⟩
          have hgB : g < B3 := by rw [hB3]; exact HTS.out.lt
          have hwB : w.heap.size ≤ B3 := by rw [hB3]; exact hg.le
          clear HT HK HM HKI
          go_wp2_with fail
          go_loopw [17, 112] (fun v i y => ∃ (k : Nat) (C : Option Addr) (cc : Nat), k ≤ n ∧ i = .int .i64 k ∧ v = .slice C k cc ∧ Hid (stB ps zs k = true) ∧ Hid (y.ownsRow B3 43 7 (.slice C k cc) k (((standL ps zs).take k).flatMap se)) ∧ Hid (Blk te 111 y g (ps.map fun p => tal p.id zs)) ∧ Grew w y ∧ B3 ≤ y.heap.size) (fun _ i _ => n - (intOf i).toNat)
          case atStart => exact ⟨0, none, 0, Nat.zero_le _, rfl, rfl, rfl, World.ownsRow_nil _ _ _ _, HTS, hg, by omega⟩
          case round =>
            clear HTS hg hB3
            obtain ⟨w3, rfl⟩ : ∃ wi : World, wi = wr := ⟨_, rfl⟩
            obtain ⟨k, C, cc, hk, rfl, rfl, HSB, OW, HT, hg, hBy⟩ := hrel
            by_cases hlt : k < n
            · obtain ⟨b, o, x, rfl, hx, hr⟩ := (HP.out.1.grew hg).at_ pe_ok hlt
              have HX := Lib.hid hx
              obtain ⟨T, hT⟩ : ∃ T, tal x.id zs = T := ⟨_, rfl⟩
              have HTX := Lib.hid hT
              have k0 : (0 : Int) ≤ (k : Int) := by omega
              have k1 : (k : Int) < (n : Int) := by omega
              obtain ⟨c0, c1, c2, c3⟩ := p_cells hr
              obtain ⟨wa, hwa⟩ : ∃ y, y = w3.alloc (.cells #[.int .i64 x.id, .string x.acc, .int .i64 x.c, .int .i64 x.d] 27) := ⟨_, rfl⟩
              have ga : Grew w3 wa := by rw [hwa]; exact (Grew.refl w3).alloc _
              have hrx : wa.rangeAt w3.heap.size 0 (pe x) := by rw [hwa]; exact range_new w3 (pe x) 27
              have HRX := Lib.hid hrx
              have sza : w3.heap.size < wa.heap.size := by rw [hwa]; simp
              have HTA := Lib.hid (HT.out.grew ga)
              have OWA := Lib.hid (own_grew OW.out ga)
              have HTJ : Hid ((ps.map fun p => tal p.id zs)[k]? = some T) := by unfold Hid; rw [List.getElem?_map, hx, ← hT]; rfl
              have gA := hg.trans ga
              have hC : ∀ w', Below wa.heap.size wa.drew w' → w'.cell? ⟨w3.heap.size, 0, none⟩ = some (.int .i64 x.id) ∧ w'.cell? ⟨w3.heap.size, 1, none⟩ = some (.string x.acc) ∧ w'.cell? ⟨w3.heap.size, 2, none⟩ = some (.int .i64 x.c) ∧ w'.cell? ⟨w3.heap.size, 3, none⟩ = some (.int .i64 x.d) := fun w' g' => by
                have gg : Grew wa w' := (Grew.refl wa).drew.trans g'
                exact p_cells0 (range_grew HRX.out gg)
              clear hx hr hrx hT OW HT hg ga
              go_upto_region 24 with (fail)
              rw [← hwa]
              clear hwa c0 c1 c2 c3
              go_wp2_with fail
              refine wp_region_H (by kernel_rfl) (fun w' => Below wa.heap.size wa.drew w') ?_
              refine wpAnyH_takes (fun _ _ _ _ _ h => h) (Below.refl _ _) [0, 1, 2, 3] (fuel' := 7) (by kernel_rfl) (by kernel_rfl) (by simp only [pickOps, List.getElem?_toArray, List.getElem?_cons_zero, List.getElem?_cons_succ]; rfl) ?_
              repeat (first
                | (refine TakeP.pure (v := ?_) (by rfl) ?_ ?_; rotate_left; (intro w' g'; obtain ⟨x0, x1, x2, x3⟩ := hC w' g'; go_simp; first | done | with_reducible rfl); (simp only [Act.put, List.setIfInBounds_toArray, List.set_cons_zero, List.set_cons_succ])))
              refine TakeP.nil ?_
              refine wpAnyH_two (i := 4) (j := 8) (by kernel_rfl) (fuel' := 6) (by kernel_rfl) (by simp only [pickOps, List.getElem?_toArray, List.getElem?_cons_zero, List.getElem?_cons_succ]; rfl) rfl (by simp only [pickOps, List.getElem?_toArray, List.getElem?_cons_zero, List.getElem?_cons_succ]; rfl) rfl ?_ ?_
              · intro K hK
                refine wp_call 61 #[.pointer (some ⟨g, k * 4, none⟩), .agg #[.int .i64 x.id, .string x.acc, .int .i64 x.c, .int .i64 x.d]] (by go_simp; first | done | rfl) ?_
                refine (stand_any g k T x _ ((HTA.out.grew (Grew.refl wa).drew).at_ te_ok HTJ.out)).mono ?_
                rintro e w4 ⟨rfl, g4⟩
                refine ⟨_, rfl, hK _ _ g4 ?_⟩
                clear hK K
                refine wpAnyH_takes (fun _ _ _ _ _ h => h) g4 [5, 6, 7] (fuel' := 3) (by kernel_rfl) (by kernel_rfl) (by simp only [pickOps, List.getElem?_toArray, List.getElem?_cons_zero, List.getElem?_cons_succ]; rfl) ?_
                repeat (first
                  | (refine TakeP.pure (v := ?_) (by rfl) ?_ ?_; rotate_left; (intro w' g'; go_simp; first | done | with_reducible rfl); (simp only [Act.put, List.setIfInBounds_toArray, List.set_cons_zero, List.set_cons_succ])))
                refine TakeP.nil ?_
                refine wpAnyH_step (i := 8) (by kernel_rfl) (fuel' := 2) (by kernel_rfl) (by simp only [pickOps, List.getElem?_toArray, List.getElem?_cons_zero, List.getElem?_cons_succ]; rfl) (by rfl) ?_
                intro K hK
                go_simp
                have S5 : Below wa.heap.size wa.drew (w4.alloc (.cells #[.int .i64 0, .string { data := #[] }, .int .i64 0, .int .i64 0, .int .i64 0, .int .i64 0, .int .i64 0] 43)) := Below.alloc g4 g4.size _
                refine hK _ _ S5 ?_
                clear hK K
                have HZ := Lib.hid (heap_alloc_new w4 (.cells #[.int .i64 0, .string { data := #[] }, .int .i64 0, .int .i64 0, .int .i64 0, .int .i64 0, .int .i64 0] 43))
                obtain ⟨w5, hw5⟩ : ∃ y, y = w4.alloc (.cells #[.int .i64 0, .string { data := #[] }, .int .i64 0, .int .i64 0, .int .i64 0, .int .i64 0, .int .i64 0] 43) := ⟨_, rfl⟩
                rw [← hw5] at HZ S5 ⊢
                obtain ⟨z, hz⟩ : ∃ z, z = w4.heap.size := ⟨_, rfl⟩
                rw [← hz] at HZ ⊢
                have hzB : wa.heap.size ≤ z := by rw [hz]; exact g4.size
                clear hw5 hz g4
                refine wpAnyH_step (i := 9) (by kernel_rfl) (fuel' := 1) (by kernel_rfl) (by simp only [pickOps, List.getElem?_toArray, List.getElem?_cons_zero, List.getElem?_cons_succ]; rfl) (by rfl) ?_
                intro K hK
                refine wp_store_row 43 (.tmp 20) (.tmp 123) rfl z #[.int .i64 x.id, .string x.acc, .int .i64 x.c, .int .i64 x.d, .int .i64 (stOf T), .int .i64 T.pd, .int .i64 T.bk] rfl rfl 43 _ HZ.out size43 rfl (by simp [Value.oneCell']) ?_
                have S9 := below_row S5 hzB #[.int .i64 x.id, .string x.acc, .int .i64 x.c, .int .i64 x.d, .int .i64 (stOf T), .int .i64 T.pd, .int .i64 T.bk]
                have HZ9 := Lib.hid (setRow_heap w5 z _ #[.int .i64 x.id, .string x.acc, .int .i64 x.c, .int .i64 x.d, .int .i64 (stOf T), .int .i64 T.pd, .int .i64 T.bk] 43 (0, 0) HZ.out)
                refine hK _ _ S9 ?_
                clear hK K
                refine wpAnyH_takes (fun _ _ _ _ _ h => h) S9 [10] (fuel' := 0) (by kernel_rfl) (by kernel_rfl) (by simp only [pickOps, List.getElem?_toArray, List.getElem?_cons_zero, List.getElem?_cons_succ]; rfl) ?_
                repeat (first
                  | (refine TakeP.pure (v := ?_) (by rfl) ?_ ?_; rotate_left; (intro w' g'; go_simp; first | done | with_reducible rfl); (simp only [Act.put, List.setIfInBounds_toArray, List.set_cons_zero, List.set_cons_succ])))
                refine TakeP.nil ?_
                refine wpAnyH_done (by kernel_rfl) ?_ _
                obtain ⟨w9, hw9⟩ : ∃ y, y = w5.setRow z #[.int .i64 x.id, .string x.acc, .int .i64 x.c, .int .i64 x.d, .int .i64 (stOf T), .int .i64 T.pd, .int .i64 T.bk] := ⟨_, rfl⟩
                rw [← hw9] at HZ9 S9 ⊢
                clear hw9 HZ S5 hC
                have g9 : Grew wa w9 := ⟨S9.os, S9.tape, S9.output, S9.size, S9.block⟩
                have HT9 := Lib.hid (HTA.out.grew g9)
                have OW9 := Lib.hid (own_grew OWA.out g9)
                have G9 := gA.trans g9
                have sz9 := g9.le
                clear HTA OWA S9 gA g9
                rcases bool_or (okT x T) with hok | hok
                · have HOK := Lib.hid hok
                  have HS2 : Hid (stB ps zs (k + 1) = true) := stB_succ HSB.out HX.out (by rw [HTX.out]; exact HOK.out)
                  have hE : w9.cell? ⟨z, 0, none⟩ = some (.int .i64 x.id) ∧ w9.cell? ⟨z, 1, none⟩ = some (.string x.acc) ∧ w9.cell? ⟨z, 2, none⟩ = some (.int .i64 x.c) ∧ w9.cell? ⟨z, 3, none⟩ = some (.int .i64 x.d) ∧ w9.cell? ⟨z, 4, none⟩ = some (.int .i64 (stOf T)) ∧ w9.cell? ⟨z, 5, none⟩ = some (.int .i64 T.pd) ∧ w9.cell? ⟨z, 6, none⟩ = some (.int .i64 T.bk) := s_cells0 (s := staS x T) (row_at (l := se (staS x T)) HZ9.out)
                  obtain ⟨e0, e1, e2, e3, e4, e5, e6⟩ := hE
                  rw [HOK.out]
                  have BI := Lib.hid (Recs.built (w := w9) se_ok (t := 43) (l := [staS x T]) (n := 1) #[.int .i64 x.id, .string x.acc, .int .i64 x.c, .int .i64 x.d, .int .i64 (stOf T), .int .i64 T.pd, .int .i64 T.bk] rfl rfl (by decide))
                  have hE7 : Hid (((standL ps zs).take (k + 1)).flatMap se = ((standL ps zs).take k).flatMap se ++ se (staS x T)) := flat_snoc se _ _ _ (by unfold standL; rw [List.getElem?_map, HX.out]; simp only [Option.map_some]; rw [HTX.out])
                  clear hok
                  go_wp2_with (at_builtin; refine wpList_append_sl _ rfl (.tmp 127) (.tmp 129) 22 rfl B3 43 i0 _ 7 64 Try.underlying22 hi hz0 hz1 hz2 rfl (by decide) (.slice C k cc) k _ rfl (OW9.out.alloc _) (some ⟨w9.heap.size, 0, none⟩) 1 1 _ rfl BI.out.2 (flat_one se_ok _) (by unfold maxLen; omega) (by omega) (by simp; omega) ?_; intro v3 w3 own3 hg3 hat3; obtain ⟨A3, c3, rfl⟩ := own_form own3)
                  have OW3 : Hid (w3.ownsRow B3 43 7 (.slice A3 (k + 1) c3) (k + 1) (((standL ps zs).take (k + 1)).flatMap se)) := by unfold Hid; rw [hE7.out]; simpa using own3
                  have hlo := fun j hj => (OW9.out.lt j hj).1
                  have gE : Grew w w3 := (G9.alloc _).grown hg3 (fun j hj => by have := hlo j hj; omega)
                  have HT3 := Lib.hid ((HT9.out.grew ((Grew.refl w9).alloc _)).kept hg3 (fun e => by have := hlo g e.symm; omega))
                  have sz3 := hg3.size
                  simp at sz3
                  clear own3 hg3 hat3 BI hlo OW9 HT9 G9 hE7 e0 e1 e2 e3 e4 e5 e6 HZ9
                  go_roundw
                  case rel => exact ⟨k + 1, A3, c3, by omega, by go_num, rfl, HS2, OW3, HT3, gE, by omega⟩
                  case measure => simp [intOf]; omega
                · have HOK := Lib.hid hok
                  have HB : Hid (standOk ps zs = false) := by unfold Hid standOk; rw [stB_bad (by rw [HL.out]; exact hlt) HX.out (by rw [HTX.out]; exact HOK.out), Bool.and_false]
                  rw [HOK.out]
                  clear hok HZ9 OW9 HT9
                  go_wp2_with fail
                  refine bodyPost_ret (results_tmp2 rfl _ _ _) rfl ?_
                  exact .inl ⟨HB.out, rfl, G9⟩
              · intro K hK
                go_simp
                have S0 : Below wa.heap.size wa.drew (wa.alloc (.cells #[.int .i64 0, .string { data := #[] }, .int .i64 0, .int .i64 0, .int .i64 0, .int .i64 0, .int .i64 0] 43)).drew := show Below wa.heap.size wa.drew (wa.drew.alloc (.cells #[.int .i64 0, .string { data := #[] }, .int .i64 0, .int .i64 0, .int .i64 0, .int .i64 0, .int .i64 0] 43)) from Below.alloc (Below.refl wa.heap.size wa.drew) (show wa.heap.size ≤ wa.drew.heap.size from Nat.le_refl _) _
                refine hK _ _ S0 ?_
                clear hK K
                obtain ⟨w4, hw4⟩ : ∃ y, y = (wa.alloc (.cells #[.int .i64 0, .string { data := #[] }, .int .i64 0, .int .i64 0, .int .i64 0, .int .i64 0, .int .i64 0] 43)).drew := ⟨_, rfl⟩
                have g04 : Grew wa.drew w4 := by rw [hw4]; exact S0
                have HZ1 : Hid (w4.heap[wa.heap.size]? = some (.cells #[.int .i64 0, .string { data := #[] }, .int .i64 0, .int .i64 0, .int .i64 0, .int .i64 0, .int .i64 0] 43)) := by unfold Hid; rw [hw4]; exact heap_alloc_new wa _
                rw [← hw4] at S0 ⊢
                have hzB : wa.heap.size ≤ wa.heap.size := Nat.le_refl _
                clear hw4
                refine wpAnyH_step (i := 4) (by kernel_rfl) (fuel' := 5) (by kernel_rfl) (by simp only [pickOps, List.getElem?_toArray, List.getElem?_cons_zero, List.getElem?_cons_succ]; rfl) (by rfl) ?_
                intro K hK
                refine wp_call 61 #[.pointer (some ⟨g, k * 4, none⟩), .agg #[.int .i64 x.id, .string x.acc, .int .i64 x.c, .int .i64 x.d]] (by go_simp; first | done | rfl) ?_
                refine (stand_any g k T x _ ((HTA.out.grew ((Grew.refl wa).drew.trans g04)).at_ te_ok HTJ.out)).mono ?_
                rintro e w5 ⟨rfl, g5⟩
                have S5 : Below wa.heap.size wa.drew w5 := g04.trans g5
                refine ⟨_, rfl, hK _ _ S5 ?_⟩
                clear hK K
                have HZ := Lib.hid (g5.block HZ1.out)
                clear HZ1 g04 g5 S0
                refine wpAnyH_takes (fun _ _ _ _ _ h => h) S5 [5, 6, 7] (fuel' := 2) (by kernel_rfl) (by kernel_rfl) (by simp only [pickOps, List.getElem?_toArray, List.getElem?_cons_zero, List.getElem?_cons_succ]; rfl) ?_
                repeat (first
                  | (refine TakeP.pure (v := ?_) (by rfl) ?_ ?_; rotate_left; (intro w' g'; go_simp; first | done | with_reducible rfl); (simp only [Act.put, List.setIfInBounds_toArray, List.set_cons_zero, List.set_cons_succ])))
                refine TakeP.nil ?_
                refine wpAnyH_step (i := 9) (by kernel_rfl) (fuel' := 1) (by kernel_rfl) (by simp only [pickOps, List.getElem?_toArray, List.getElem?_cons_zero, List.getElem?_cons_succ]; rfl) (by rfl) ?_
                intro K hK
                refine wp_store_row 43 (.tmp 20) (.tmp 123) rfl wa.heap.size #[.int .i64 x.id, .string x.acc, .int .i64 x.c, .int .i64 x.d, .int .i64 (stOf T), .int .i64 T.pd, .int .i64 T.bk] rfl rfl 43 _ HZ.out size43 rfl (by simp [Value.oneCell']) ?_
                have S9 := below_row S5 hzB #[.int .i64 x.id, .string x.acc, .int .i64 x.c, .int .i64 x.d, .int .i64 (stOf T), .int .i64 T.pd, .int .i64 T.bk]
                have HZ9 := Lib.hid (setRow_heap w5 wa.heap.size _ #[.int .i64 x.id, .string x.acc, .int .i64 x.c, .int .i64 x.d, .int .i64 (stOf T), .int .i64 T.pd, .int .i64 T.bk] 43 (0, 0) HZ.out)
                refine hK _ _ S9 ?_
                clear hK K
                refine wpAnyH_takes (fun _ _ _ _ _ h => h) S9 [10] (fuel' := 0) (by kernel_rfl) (by kernel_rfl) (by simp only [pickOps, List.getElem?_toArray, List.getElem?_cons_zero, List.getElem?_cons_succ]; rfl) ?_
                repeat (first
                  | (refine TakeP.pure (v := ?_) (by rfl) ?_ ?_; rotate_left; (intro w' g'; go_simp; first | done | with_reducible rfl); (simp only [Act.put, List.setIfInBounds_toArray, List.set_cons_zero, List.set_cons_succ])))
                refine TakeP.nil ?_
                refine wpAnyH_done (by kernel_rfl) ?_ _
                obtain ⟨w9, hw9⟩ : ∃ y, y = w5.setRow wa.heap.size #[.int .i64 x.id, .string x.acc, .int .i64 x.c, .int .i64 x.d, .int .i64 (stOf T), .int .i64 T.pd, .int .i64 T.bk] := ⟨_, rfl⟩
                rw [← hw9] at HZ9 S9 ⊢
                clear hw9 HZ S5 hC
                have g9 : Grew wa w9 := ⟨S9.os, S9.tape, S9.output, S9.size, S9.block⟩
                have HT9 := Lib.hid (HTA.out.grew g9)
                have OW9 := Lib.hid (own_grew OWA.out g9)
                have G9 := gA.trans g9
                have sz9 := g9.le
                clear HTA OWA S9 gA g9
                rcases bool_or (okT x T) with hok | hok
                · have HOK := Lib.hid hok
                  have HS2 : Hid (stB ps zs (k + 1) = true) := stB_succ HSB.out HX.out (by rw [HTX.out]; exact HOK.out)
                  have hE : w9.cell? ⟨wa.heap.size, 0, none⟩ = some (.int .i64 x.id) ∧ w9.cell? ⟨wa.heap.size, 1, none⟩ = some (.string x.acc) ∧ w9.cell? ⟨wa.heap.size, 2, none⟩ = some (.int .i64 x.c) ∧ w9.cell? ⟨wa.heap.size, 3, none⟩ = some (.int .i64 x.d) ∧ w9.cell? ⟨wa.heap.size, 4, none⟩ = some (.int .i64 (stOf T)) ∧ w9.cell? ⟨wa.heap.size, 5, none⟩ = some (.int .i64 T.pd) ∧ w9.cell? ⟨wa.heap.size, 6, none⟩ = some (.int .i64 T.bk) := s_cells0 (s := staS x T) (row_at (l := se (staS x T)) HZ9.out)
                  obtain ⟨e0, e1, e2, e3, e4, e5, e6⟩ := hE
                  rw [HOK.out]
                  have BI := Lib.hid (Recs.built (w := w9) se_ok (t := 43) (l := [staS x T]) (n := 1) #[.int .i64 x.id, .string x.acc, .int .i64 x.c, .int .i64 x.d, .int .i64 (stOf T), .int .i64 T.pd, .int .i64 T.bk] rfl rfl (by decide))
                  have hE7 : Hid (((standL ps zs).take (k + 1)).flatMap se = ((standL ps zs).take k).flatMap se ++ se (staS x T)) := flat_snoc se _ _ _ (by unfold standL; rw [List.getElem?_map, HX.out]; simp only [Option.map_some]; rw [HTX.out])
                  clear hok
                  go_wp2_with (at_builtin; refine wpList_append_sl _ rfl (.tmp 127) (.tmp 129) 22 rfl B3 43 i0 _ 7 64 Try.underlying22 hi hz0 hz1 hz2 rfl (by decide) (.slice C k cc) k _ rfl (OW9.out.alloc _) (some ⟨w9.heap.size, 0, none⟩) 1 1 _ rfl BI.out.2 (flat_one se_ok _) (by unfold maxLen; omega) (by omega) (by simp; omega) ?_; intro v3 w3 own3 hg3 hat3; obtain ⟨A3, c3, rfl⟩ := own_form own3)
                  have OW3 : Hid (w3.ownsRow B3 43 7 (.slice A3 (k + 1) c3) (k + 1) (((standL ps zs).take (k + 1)).flatMap se)) := by unfold Hid; rw [hE7.out]; simpa using own3
                  have hlo := fun j hj => (OW9.out.lt j hj).1
                  have gE : Grew w w3 := (G9.alloc _).grown hg3 (fun j hj => by have := hlo j hj; omega)
                  have HT3 := Lib.hid ((HT9.out.grew ((Grew.refl w9).alloc _)).kept hg3 (fun e => by have := hlo g e.symm; omega))
                  have sz3 := hg3.size
                  simp at sz3
                  clear own3 hg3 hat3 BI hlo OW9 HT9 G9 hE7 e0 e1 e2 e3 e4 e5 e6 HZ9
                  go_roundw
                  case rel => exact ⟨k + 1, A3, c3, by omega, by go_num, rfl, HS2, OW3, HT3, gE, by omega⟩
                  case measure => simp [intOf]; omega
                · have HOK := Lib.hid hok
                  have HB : Hid (standOk ps zs = false) := by unfold Hid standOk; rw [stB_bad (by rw [HL.out]; exact hlt) HX.out (by rw [HTX.out]; exact HOK.out), Bool.and_false]
                  rw [HOK.out]
                  clear hok HZ9 OW9 HT9
                  go_wp2_with fail
                  refine bodyPost_ret (results_tmp2 rfl _ _ _) rfl ?_
                  exact .inl ⟨HB.out, rfl, G9⟩
            · obtain rfl : k = n := by omega
              have OWn := OW.out
              rw [List.take_of_length_le (by unfold standL; rw [List.length_map, HL.out]; exact Nat.le_refl _)] at OWn
              have OWN := Lib.hid (own_base OWn hwB)
              have HOK : Hid (standOk ps zs = true) := by unfold Hid standOk; rw [HPS.out, HAS.out, HL.out, HSB.out]; rfl
              clear OWn OW HT
              go_wp2_with fail
              refine bodyPost_ret (results_tmp2 rfl _ _ _) rfl ?_
              exact .inr ⟨HOK.out, C, k, cc, rfl, by unfold standL; rw [List.length_map, HL.out], OWN.out, hg⟩
end Go.Proofs.Ytaocjobbfcfleaa
