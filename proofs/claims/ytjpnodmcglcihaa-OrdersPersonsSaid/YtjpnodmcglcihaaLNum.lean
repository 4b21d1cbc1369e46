/-
  The law OrdersNumbers, walked.
-/
import Derived.Test.YtjpnodmcglcihaaRValid
import Derived.Test.YtjpnodmcglcihaaNumP
import Derived.Test.YtjpnodmcglcihaaMapR
namespace Go.Proofs.Ytjpnodmcglcihaa
open Go.RowKit Go.Proofs WageMem WageOrd WageRec WageMap WageReg

abbrev MapS := MapIs (fun n : Int => Value.int .i64 n) (fun b : Bool => Value.bool b)
theorem map34 : Try.prog.underlying 34 = some (.map 3 4) := by kernel_rfl
theorem zero4' (w : World) : (zeroValue 4).run Try.prog w = .ok (.bool false) w := by kernel_rfl
theorem exec_neq24' {ρ : Operand → Value} {o : Oper} {x y : Operand} {t : TypeId} {a b : Ord} {r : Bool} (hr : (!eqO a b) = r) (ho : o.op = .binOp .neq 24 x y t) (hx : ρ x = ov a) (hy : ρ y = ov b) (w : World) : (execOp ρ o).run Try.prog w = .ok (.value (.bool r)) w := exec_neq24 hr ho hx hy w

set_option maxRecDepth 100000 in
set_option maxHeartbeats 8000000 in
theorem num_skip (A : Option Addr) (n c : Nat) (l : List Ord) (p : ByteArray) (mo kn : Int) (w : World) (_h : Ords w A n c l) (hn : n ≤ 9223372036854775807) (hs : decide (n ≤ 403) = false) : Calls Try.prog 5 #[.slice A n c, .string p, .int .i64 mo, .int .i64 kn] w fun e w' => e = .returned (.bool true) ∧ Grew w w' := by
  have HS := Lib.hid hs
  clear hs
  go_enter Try.func5, Try.ntmps5
  go_wp2_with fail
  refine (head_true _).mono ?_
  rintro e v1 ⟨rfl, g1⟩
  go_wp2_with fail
  refine (short_any A n c _ hn HS.out).mono ?_
  rintro e v2 ⟨rfl, g2⟩
  go_wp2_with fail
  go_ret
  exact ⟨rfl, g1.trans g2⟩
set_option maxRecDepth 100000 in
set_option maxHeartbeats 8000000 in
theorem num_bad (A : Option Addr) (n c : Nat) (l : List Ord) (p : ByteArray) (mo kn : Int) (w : World) (h : Ords w A n c l) (hn : n ≤ 403) (hv : validB l = false) : Calls Try.prog 5 #[.slice A n c, .string p, .int .i64 mo, .int .i64 kn] w fun e w' => e = .returned (.bool true) ∧ Grew w w' := by
  have HS := Lib.hid (decide_eq_true hn)
  have HV := Lib.hid hv
  have HH := Lib.hid h
  have HR := Lib.hid (openL_not (p := p) (month := mo) (kn := kn) hv)
  clear h hv
  go_enter Try.func5, Try.ntmps5
  go_wp2_with fail
  refine (head_true _).mono ?_
  rintro e v1 ⟨rfl, g1⟩
  go_wp2_with fail
  refine (short_any A n c _ (by omega) HS.out).mono ?_
  rintro e v2 ⟨rfl, g2⟩
  replace HH := Lib.hid (HH.out.grew (g1.trans g2))
  go_wp2_with fail
  refine (open_val HH.out (by omega) HR.out).mono ?_
  rintro e v3 ⟨A3, n3, cc3, rfl, h3, g3⟩
  obtain rfl : 0 = n3 := by rw [← h3.1.1]; rfl
  replace HH := Lib.hid (HH.out.grew g3)
  clear h3
  go_wp2_with fail
  refine (rvalid_val HH.out HV.out).mono ?_
  rintro e v4 ⟨rfl, g4⟩
  replace HH := Lib.hid (HH.out.grew g4)
  go_wp2_with fail
  refine (valid_val HH.out HV.out).mono ?_
  rintro e v5 ⟨rfl, g5⟩
  go_wp2_with fail
  go_ret
  exact ⟨rfl, (((g1.trans g2).trans g3).trans g4).trans g5⟩
set_option maxRecDepth 100000 in
set_option maxHeartbeats 16000000 in
theorem num_main (A : Option Addr) (n c : Nat) (l : List Ord) (p : ByteArray) (mo kn : Int) (w : World) (h : Ords w A n c l) (hn : n ≤ 403) (hv : validB l = true) : Calls Try.prog 5 #[.slice A n c, .string p, .int .i64 mo, .int .i64 kn] w fun e w' => e = .returned (.bool true) ∧ Grew w w' := by
  have HS := Lib.hid (decide_eq_true hn)
  have HV := Lib.hid hv
  have HH := Lib.hid h
  have HL := Lib.hid h.1.1
  have hmm := @run_makeMap Try.prog
  obtain ⟨r, hr⟩ : ∃ r, openL l p mo kn = r := ⟨_, rfl⟩
  have HR := Lib.hid hr
  clear h hv hr
  go_enter Try.func5, Try.ntmps5
  go_wp2_with fail
  refine (head_true _).mono ?_
  rintro e v1 ⟨rfl, g1⟩
  go_wp2_with fail
  refine (short_any A n c _ (by omega) HS.out).mono ?_
  rintro e v2 ⟨rfl, g2⟩
  replace HH := Lib.hid (HH.out.grew (g1.trans g2))
  go_wp2_with fail
  refine (open_val HH.out (by omega) HR.out).mono ?_
  rintro e v3 ⟨A3, n3, cc3, rfl, h3, g3⟩
  have H3 := Lib.hid h3
  have hn3 := h3.1.le
  have L3 := Lib.hid h3.1.1
  replace HH := Lib.hid (HH.out.grew g3)
  clear h3
  go_wp2_with fail
  refine (rvalid_val HH.out HV.out).mono ?_
  rintro e v4 ⟨rfl, g4⟩
  replace HH := Lib.hid (HH.out.grew g4)
  replace H3 := Lib.hid (H3.out.grew g4)
  have G4 := Lib.hid (((g1.trans g2).trans g3).trans g4)
  clear g1 g2 g3 g4
  have M1 := MapIs.made (ek := fun n : Int => Value.int .i64 n) (ev := ov) v4
  obtain ⟨wm, hwm⟩ : ∃ x, x = v4.alloc (.map #[] 0) := ⟨_, rfl⟩
  have gm : Grew v4 wm := by rw [hwm]; exact (Grew.refl _).alloc _
  obtain ⟨b1, hb1⟩ : ∃ b, b = v4.heap.size := ⟨_, rfl⟩
  have hle1 : w.heap.size ≤ b1 := by rw [hb1]; exact G4.out.le
  rw [← hwm, ← hb1] at M1
  have HM1 := Lib.hid M1
  replace HH := Lib.hid (HH.out.grew gm)
  replace H3 := Lib.hid (H3.out.grew gm)
  replace G4 := Lib.hid (G4.out.trans gm)
  have HB1 := Lib.hid hb1
  clear M1 gm hb1
  go_wp2_with fail
  rw [← hwm, ← HB1.out]
  clear hwm HB1
  go_loopw [46] (fun i wr => ∃ k : Nat, k ≤ n ∧ i = .int .i64 k ∧ Hid (MapO wr b1 (lM l kn k)) ∧ Hid (Ords wr A3 n3 cc3 r) ∧ Hid (Ords wr A n c l) ∧ Grew w wr) (fun i _ => n - (intOf i).toNat)
  case atStart => exact ⟨0, Nat.zero_le _, rfl, HM1, H3, HH, G4.out⟩
  case round =>
    clear HM1 H3 HH G4
    obtain ⟨k, hk, rfl, HM1, H3, HH, hg⟩ := hrel
    by_cases hlt : k < n
    · obtain ⟨b, o, x, rfl, hx, hr⟩ := HH.out.1.at_ oe_ok hlt
      have HX := Lib.hid hx
      have i0 : (0 : Int) ≤ (k : Int) := by omega
      have i1 : (k : Int) < (n : Int) := by omega
      obtain ⟨c0, c1, c2, c3, c4, c5, c6, c7⟩ := cells24 hr
      obtain ⟨wa, hwa⟩ : ∃ y, y = wr.alloc (.cells #[.int .i64 x.n, .string x.p, .string x.c, .int .i64 x.r, .int .i64 x.k, .int .i64 x.f, .int .i64 x.m, .bool x.fam] 24) := ⟨_, rfl⟩
      have ga : Grew wr wa := by rw [hwa]; exact (Grew.refl wr).alloc _
      have hrx : wa.rangeAt wr.heap.size 0 (oe x) := by rw [hwa]; exact range_new wr (oe x) 24
      obtain ⟨x0, x1, x2, x3, x4, x5, x6, x7⟩ := cells24n hrx
      by_cases hkn : x.k ≤ kn
      · have qk : decide (x.k ≤ kn) = true := decide_eq_true hkn
        have MA := HM1.out.grew ga
        obtain ⟨wb, up, M2, gb⟩ := MA.update key3 map33 x.n x
        rw [← lM_in HX.out hkn] at M2
        rw [ov_eq] at up
        have HM2 := Lib.hid M2
        have H3' : Hid (Ords wb A3 n3 cc3 r) := ⟨recs_kept (H3.out.grew ga).1 gb (fun p v hc => cell_ne_map hc MA), H3.out.2⟩
        have HH' : Hid (Ords wb (some ⟨b, o, none⟩) n c l) := ⟨recs_kept (HH.out.grew ga).1 gb (fun p v hc => cell_ne_map hc MA), HH.out.2⟩
        have gE : Grew w wb := (hg.trans ga).grown gb (fun j hj => by injection hj with hj; omega)
        clear M2 gb MA hx hr hrx hkn
        go_upto_region 11 with (fail)
        rw [← hwa]
        clear hwa c0 c1 c2 c3 c4 c5 c6 c7
        go_wp2_with fail
        go_roundw
        case rel => exact ⟨k + 1, by omega, by go_num, HM2, H3', HH', gE⟩
        case measure => simp [intOf]; omega
      · have qk : decide (x.k ≤ kn) = false := decide_eq_false hkn
        have HM2 : Hid (MapO wa b1 (lM l kn (k + 1))) := by unfold Hid; rw [lM_out HX.out hkn]; exact HM1.out.grew ga
        have H3' := Lib.hid (H3.out.grew ga)
        have HH' := Lib.hid (HH.out.grew ga)
        have gE := hg.trans ga
        clear hx hr hrx hkn
        go_upto_region 11 with (fail)
        rw [← hwa]
        clear hwa c0 c1 c2 c3 c4 c5 c6 c7
        go_wp2_with fail
        go_roundw
        case rel => exact ⟨k + 1, by omega, by go_num, HM2, H3', HH', gE⟩
        case measure => simp [intOf]; omega
    · obtain ⟨m, hm⟩ : ∃ m, lM l kn l.length = m := ⟨_, rfl⟩
      have HMM := Lib.hid hm
      have HM2 : Hid (MapO wr b1 m) := by have := HM1.out; rw [show k = l.length by rw [HL.out]; omega, hm] at this; exact this
      have M5 := MapIs.made (ek := fun n : Int => Value.int .i64 n) (ev := fun b : Bool => Value.bool b) wr
      obtain ⟨ws, hws⟩ : ∃ x, x = wr.alloc (.map #[] 0) := ⟨_, rfl⟩
      have gs : Grew wr ws := by rw [hws]; exact (Grew.refl _).alloc _
      obtain ⟨b2, hb2⟩ : ∃ b, b = wr.heap.size := ⟨_, rfl⟩
      have hne : b1 < b2 := by rw [hb2]; exact HM1.out.lt
      rw [← hws, ← hb2] at M5
      have HM5 := Lib.hid M5
      replace HM2 := Lib.hid (HM2.out.grew gs)
      replace H3 := Lib.hid (H3.out.grew gs)
      have G5 := Lib.hid (hg.trans gs)
      have HB2 := Lib.hid hb2
      clear hm HM1 HH hg M5 gs hb2
      go_wp2_with fail
      rw [← hws, ← HB2.out]
      clear hws HB2 hmm
      obtain ⟨wo, hwo⟩ : ∃ wo : World, wo = wr := ⟨_, rfl⟩
      clear hwo
      go_loopw [62] (fun i x => ∃ q : Nat, q ≤ n3 ∧ i = .int .i64 q ∧ Hid (MapO x b1 m) ∧ Hid (MapS x b2 (seM r q)) ∧ Hid (Ords x A3 n3 cc3 r) ∧ Grew w x) (fun i _ => n3 - (intOf i).toNat)
      case atStart => exact ⟨0, Nat.zero_le _, rfl, HM2, HM5, H3, G5.out⟩
      case round =>
        clear HM2 HM5 H3 G5
        obtain ⟨w8, rfl⟩ : ∃ wi : World, wi = wr := ⟨_, rfl⟩
        obtain ⟨q, hq, rfl, HM2, HM5, H3, hg⟩ := hrel
        by_cases hlt2 : q < n3
        · obtain ⟨b, o, x, rfl, hx, hr⟩ := H3.out.1.at_ oe_ok hlt2
          have HX := Lib.hid hx
          have hmem := List.mem_of_getElem? hx
          have hin := hmem
          rw [← HR.out] at hin
          obtain ⟨_, xp, xk, xf, xm⟩ := openL_mem hin
          have hla := open_last HV.out hin
          rw [HMM.out] at hla
          have hns : alFind x.n (seM r q) = none := by have := not_seen (l := l) (p := p) (mo := mo) (kn := kn) (k := q) (x := x) (by rw [HR.out]; exact hx); rw [HR.out] at this; exact this
          have i0 : (0 : Int) ≤ (q : Int) := by omega
          have i1 : (q : Int) < (n3 : Int) := by omega
          obtain ⟨c0, c1, c2, c3, c4, c5, c6, c7⟩ := cells24 hr
          obtain ⟨wa, hwa⟩ : ∃ y, y = w8.alloc (.cells #[.int .i64 x.n, .string x.p, .string x.c, .int .i64 x.r, .int .i64 x.k, .int .i64 x.f, .int .i64 x.m, .bool x.fam] 24) := ⟨_, rfl⟩
          have ga : Grew w8 wa := by rw [hwa]; exact (Grew.refl w8).alloc _
          have hrx : wa.rangeAt w8.heap.size 0 (oe x) := by rw [hwa]; exact range_new w8 (oe x) 24
          obtain ⟨x0, x1, x2, x3, x4, x5, x6, x7⟩ := cells24n hrx
          have lk1 := (HM5.out.grew ga).lookup key3 map34 (zero4' _) x.n false
          rw [hns] at lk1
          simp only [Bool.false_eq_true, if_false, Option.map_none, Option.getD_none] at lk1
          have lk2 := (HM2.out.grew ga).lookup key3 map33 (zero24 _) x.n false
          rw [hla] at lk2
          simp only [Bool.false_eq_true, if_false, Option.map_some, Option.getD_some] at lk2
          rw [ov_eq] at lk2
          have qe : eqO x x = true := decide_eq_true rfl
          have hneq := neq24 wa x x
          rw [qe] at hneq
          have hgd := fun a b => guard24 wa .neq a b x x
          simp only [ov_eq] at hneq hgd
          have qp : (x.p.toList == p.toList) = true := by rw [str_eq]; exact decide_eq_true xp
          have qf : decide (mo < x.f) = false := decide_eq_false (by omega)
          have qm : (x.m == 0) = false := by rw [beq_eq_false_iff_ne]; exact xm
          have MA := HM5.out.grew ga
          obtain ⟨wb, up, M6, gb⟩ := MA.update key3 map34 x.n true
          rw [← seM_succ HX.out] at M6
          have HM6 := Lib.hid M6
          have HM2' := Lib.hid ((HM2.out.grew ga).kept gb (by simp; omega))
          have H3' : Hid (Ords wb (some ⟨b, o, none⟩) n3 cc3 r) := ⟨recs_kept (H3.out.grew ga).1 gb (fun p v hc => cell_ne_map hc MA), H3.out.2⟩
          have gE : Grew w wb := (hg.trans ga).grown gb (fun j hj => by injection hj with hj; omega)
          clear hx hmem hin xp xm hla hns hr hrx qe M6 gb MA
          go_upto_region 18 with (fail)
          rw [← hwa]
          clear hwa c0 c1 c2 c3 c4 c5 c6 c7
          go_wp2_with fail
          go_roundw
          case rel => exact ⟨q + 1, by omega, by go_num, HM2', HM6, H3', gE⟩
          case measure => simp [intOf]; omega
        · have HSE : Hid (∀ x ∈ r, alFind x.n (seM r q) = some true) := fun x hx => by
            rw [seM_find, List.take_of_length_le (by rw [L3.out]; omega), if_pos]
            rw [List.any_eq_true]
            exact ⟨x, hx, by simp⟩
          obtain ⟨wl, rn, IT, gl⟩ := HM2.out.range (P := Try.prog) map33
          obtain ⟨rr, hrr⟩ : ∃ r, r = w8.heap.size := ⟨_, rfl⟩
          rw [← hrr] at rn IT
          have ITH := Lib.hid IT
          have gL := Lib.hid (hg.trans gl)
          have hltr := IT.lt
          have hrl : w.heap.size ≤ rr := by rw [hrr]; exact hg.le
          have hr2 : b2 < rr := by rw [hrr]; exact HM5.out.lt
          replace HM5 := Lib.hid (HM5.out.grew gl)
          clear HM2 H3 IT hg gl hrr
          go_wp2_with fail
          clear rn
          go_loopw [8] (fun _ x => ∃ rest : List (Int × Ord), Hid (∀ y ∈ rest, y ∈ m) ∧ Hid (IterIs (fun n : Int => Value.int .i64 n) ov x rr b1 m rest) ∧ Hid (MapS x b2 (seM r q)) ∧ Grew w x) (fun _ x => iterLeft x b1 rr)
          case atStart => exact ⟨m, fun _ h => h, ITH, HM5, gL.out⟩
          case round =>
            clear ITH HM5 gL
            obtain ⟨w9, rfl⟩ : ∃ wi : World, wi = wr := ⟨_, rfl⟩
            obtain ⟨rest, SUB, IT, HM5, hg⟩ := hrel
            rcases IT.out.next (P := Try.prog) 0 with ⟨hnil, hnx⟩ | ⟨i, y, wn, hy, hnx, IT2, gn, hen⟩
            · clear hnil
              go_wp2_with fail
              go_ret
              exact ⟨rfl, hg⟩
            · rw [ov_eq] at hnx hen
              obtain ⟨y1, x⟩ := y
              simp only at hnx hen
              have hym := SUB.out _ (List.mem_of_getElem? hy)
              have hxl : x ∈ l := by
                have := ((lM_keys l kn l.length).2 (y1, x) (by rw [HMM.out]; exact hym)).2.1
                rw [List.take_length] at this
                exact this
              have hx0 := form_m (valid_form HV.out hxl)
              have HIN : Hid (x.p = p → x.f ≤ mo → 0 < x.m → alFind x.n (seM r q) = some true) := fun h1 h2 h3 => HSE.out x (by rw [← HR.out]; exact last_open (q := (y1, x)) HV.out (by rw [HMM.out]; exact hym) h1 h2 h3)
              have gW : Grew w wn := hg.grown gn (fun y hy => by injection hy with hy; omega)
              have ITn := Lib.hid IT2
              have HMn := Lib.hid (HM5.out.kept gn (by simp; omega))
              have SUBn : Hid (∀ z ∈ rest.eraseIdx i, z ∈ m) := fun z hz => SUB.out z (List.mem_of_mem_eraseIdx hz)
              have HLFT : Hid (iterLeft wn b1 rr < iterLeft w9 b1 rr) := by
                unfold Hid
                rw [IT2.left, IT.out.left]
                have := (erase_perm hy).length_eq
                rw [List.length_cons] at this
                omega
              obtain ⟨wa, hwa⟩ : ∃ y, y = wn.alloc (.cells #[.int .i64 x.n, .string x.p, .string x.c, .int .i64 x.r, .int .i64 x.k, .int .i64 x.f, .int .i64 x.m, .bool x.fam] 24) := ⟨_, rfl⟩
              have ga : Grew wn wa := by rw [hwa]; exact (Grew.refl wn).alloc _
              have hrx : wa.rangeAt wn.heap.size 0 (oe x) := by rw [hwa]; exact range_new wn (oe x) 24
              obtain ⟨c0, c1, c2, c3, c4, c5, c6, c7⟩ := cells24n hrx
              have HLa : Hid (iterLeft wa b1 rr = iterLeft wn b1 rr) := by unfold Hid; rw [(ITn.out.grew ga).left, ITn.out.left]
              have ITa := Lib.hid (ITn.out.grew ga)
              have HMa := Lib.hid (HMn.out.grew ga)
              have gE := gW.trans ga
              clear hy hym hxl IT2 IT gn hrx HM5 HMn ITn gW
              by_cases h1 : x.p = p
              · have qp : (x.p.toList == p.toList) = true := by rw [str_eq]; exact decide_eq_true h1
                by_cases h2 : x.f ≤ mo
                · have qf : decide (x.f ≤ mo) = true := decide_eq_true h2
                  by_cases h3 : 0 < x.m
                  · have qm : decide (0 < x.m) = true := decide_eq_true h3
                    have lk := HMa.out.lookup key3 map34 (zero4' _) x.n false
                    rw [HIN.out h1 h2 h3] at lk
                    simp only [Bool.false_eq_true, if_false, Option.map_some, Option.getD_some] at lk
                    clear h1
                    go_upto_region 25 with (fail)
                    rw [← hwa]
                    clear hwa
                    go_wp2_with fail
                    go_roundw
                    case rel => exact ⟨_, SUBn, ITa, HMa, gE⟩
                    case measure => rw [HLa.out]; exact HLFT.out
                  · have qm : decide (0 < x.m) = false := decide_eq_false h3
                    clear h1
                    go_upto_region 25 with (fail)
                    rw [← hwa]
                    clear hwa
                    go_wp2_with fail
                    go_roundw
                    case rel => exact ⟨_, SUBn, ITa, HMa, gE⟩
                    case measure => rw [HLa.out]; exact HLFT.out
                · have qf : decide (x.f ≤ mo) = false := decide_eq_false h2
                  clear h1
                  go_upto_region 25 with (fail)
                  rw [← hwa]
                  clear hwa
                  go_wp2_with fail
                  go_roundw
                  case rel => exact ⟨_, SUBn, ITa, HMa, gE⟩
                  case measure => rw [HLa.out]; exact HLFT.out
              · have qp : (x.p.toList == p.toList) = false := by rw [str_eq]; exact decide_eq_false h1
                clear h1
                go_upto_region 25 with (fail)
                rw [← hwa]
                clear hwa
                go_wp2_with fail
                go_roundw
                case rel => exact ⟨_, SUBn, ITa, HMa, gE⟩
                case measure => rw [HLa.out]; exact HLFT.out
theorem num_law (A : Option Addr) (n c : Nat) (l : List Ord) (p : ByteArray) (mo kn : Int) (w : World) (h : Ords w A n c l) : Calls Try.prog 5 #[.slice A n c, .string p, .int .i64 mo, .int .i64 kn] w fun e w' => e = .returned (.bool true) ∧ Grew w w' := by
  by_cases hs : n ≤ 403
  · cases hv : validB l with
    | true => exact num_main A n c l p mo kn w h hs hv
    | false => exact num_bad A n c l p mo kn w h hs hv
  · exact num_skip A n c l p mo kn w h h.1.le (decide_eq_false hs)
end Go.Proofs.Ytjpnodmcglcihaa
