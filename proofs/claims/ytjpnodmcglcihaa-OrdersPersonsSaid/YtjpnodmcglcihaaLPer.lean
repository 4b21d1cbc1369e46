/-
  The law OrdersPersons, walked.
-/
import Derived.Test.YtjpnodmcglcihaaLNum
import Derived.Test.YtjpnodmcglcihaaPerP
import Derived.Test.YtjpnodmcglcihaaSameO
namespace Go.Proofs.Ytjpnodmcglcihaa
open Go.RowKit Go.Proofs WageMem WageOrd WageRec WageMap WageReg

abbrev MapP := MapIs (fun n : ByteArray => Value.string n) (fun b : Bool => Value.bool b)
theorem map36 : Try.prog.underlying 36 = some (.map 9 4) := by kernel_rfl
theorem range_far {w w' : World} {row : Option Nat} {b q : Nat} {l : List Value} (h : w.rangeAt b q l) (g : w.grownBy w' row) (hne : some b ≠ row) : w'.rangeAt b q l := fun i v hv => g.cell (h i v hv) hne

set_option maxRecDepth 100000 in
set_option maxHeartbeats 8000000 in
theorem per_skip (A : Option Addr) (n c : Nat) (l : List Ord) (p : ByteArray) (mo kn : Int) (w : World) (_h : Ords w A n c l) (hn : n ≤ 9223372036854775807) (hs : decide (n ≤ 403) = false) : Calls Try.prog 7 #[.slice A n c, .string p, .int .i64 mo, .int .i64 kn] w fun e w' => e = .returned (.bool true) ∧ Grew w w' := by
  have HS := Lib.hid hs
  clear hs
  go_enter Try.func7, Try.ntmps7
  go_wp2_with fail
  refine (head_true _).mono ?_
  rintro e v1 ⟨rfl, g1⟩
  go_wp2_with fail
  refine (short_any A n c _ hn HS.out).mono ?_
  rintro e v2 ⟨rfl, g2⟩
  go_wp2_with fail
  go_ret
  exact ⟨rfl, g1.trans g2⟩
set_option maxRecDepth 100000 in
set_option maxHeartbeats 8000000 in
theorem per_bad (A : Option Addr) (n c : Nat) (l : List Ord) (p : ByteArray) (mo kn : Int) (w : World) (h : Ords w A n c l) (hn : n ≤ 403) (hv : validB l = false) : Calls Try.prog 7 #[.slice A n c, .string p, .int .i64 mo, .int .i64 kn] w fun e w' => e = .returned (.bool true) ∧ Grew w w' := by
  have HS := Lib.hid (decide_eq_true hn)
  have HV := Lib.hid hv
  have HH := Lib.hid h
  clear h hv
  go_enter Try.func7, Try.ntmps7
  go_wp2_with fail
  refine (head_true _).mono ?_
  rintro e v1 ⟨rfl, g1⟩
  go_wp2_with fail
  refine (short_any A n c _ (by omega) HS.out).mono ?_
  rintro e v2 ⟨rfl, g2⟩
  replace HH := Lib.hid (HH.out.grew (g1.trans g2))
  go_wp2_with fail
  refine (rvalid_val HH.out HV.out).mono ?_
  rintro e v4 ⟨rfl, g4⟩
  go_wp2_with fail
  go_ret
  exact ⟨rfl, (g1.trans g2).trans g4⟩
set_option maxRecDepth 100000 in
set_option maxHeartbeats 16000000 in
theorem per_main (A : Option Addr) (n c : Nat) (l : List Ord) (p : ByteArray) (mo kn : Int) (w : World) (h : Ords w A n c l) (hn : n ≤ 403) (hv : validB l = true) : Calls Try.prog 7 #[.slice A n c, .string p, .int .i64 mo, .int .i64 kn] w fun e w' => e = .returned (.bool true) ∧ Grew w w' := by
  obtain ⟨i0, hi, hz0, hz1, hz2⟩ := info_parts info24
  have HS := Lib.hid (decide_eq_true hn)
  have HV := Lib.hid hv
  have HH := Lib.hid h
  have HL := Lib.hid h.1.1
  have hmm := @run_makeMap Try.prog
  clear h hv
  go_enter Try.func7, Try.ntmps7
  go_wp2_with fail
  refine (head_true _).mono ?_
  rintro e v1 ⟨rfl, g1⟩
  go_wp2_with fail
  refine (short_any A n c _ (by omega) HS.out).mono ?_
  rintro e v2 ⟨rfl, g2⟩
  go_wp2_with fail
  refine (rvalid_val (HH.out.grew (g1.trans g2)) HV.out).mono ?_
  rintro e v4 ⟨rfl, g4⟩
  have G4 := Lib.hid ((g1.trans g2).trans g4)
  clear g1 g2 g4
  have M1 := MapIs.made (ek := fun n : ByteArray => Value.string n) (ev := fun b : Bool => Value.bool b) v4
  obtain ⟨wm, hwm⟩ : ∃ x, x = v4.alloc (.map #[] 0) := ⟨_, rfl⟩
  have gm : Grew v4 wm := by rw [hwm]; exact (Grew.refl _).alloc _
  have szm : v4.heap.size + 1 = wm.heap.size := by rw [hwm]; simp
  obtain ⟨b1, hb1⟩ : ∃ b, b = v4.heap.size := ⟨_, rfl⟩
  obtain ⟨b2, hb2⟩ : ∃ b, b = v4.heap.size + 1 := ⟨_, rfl⟩
  have hle1 : w.heap.size ≤ b1 := by rw [hb1]; exact G4.out.le
  have hb12 : b1 < b2 := by omega
  rw [← hwm, ← hb1] at M1
  have M2 := MapIs.made (ek := fun n : Int => Value.int .i64 n) (ev := fun b : Bool => Value.bool b) wm
  rw [← szm] at M2
  obtain ⟨vl, hvl⟩ : ∃ x, x = wm.alloc (.map #[] 0) := ⟨_, rfl⟩
  have gv : Grew wm vl := by rw [hvl]; exact (Grew.refl _).alloc _
  have hbv : b2 < vl.heap.size := by rw [hvl, hb2, szm]; simp
  rw [← hvl, ← hb2] at M2
  have HQ := Lib.hid M2
  have HM1 := Lib.hid (M1.grew gv)
  replace G4 := Lib.hid ((G4.out.trans gm).trans gv)
  have HB1 := Lib.hid hb1
  have HB2 := Lib.hid hb2
  have HSZ := Lib.hid szm
  clear M1 M2 gm gv hb1 hb2 szm
  go_wp2_with fail
  rw [← hwm]
  rw [← hvl]
  rw [← HB2.out, ← HB1.out]
  clear hwm hvl HB1 HB2 HSZ hmm
  go_loopw [10, 34] (fun v i y => ∃ (k : Nat) (Al : Option Addr) (j cl : Nat), k ≤ n ∧ i = .int .i64 k ∧ v = .slice Al j cl ∧ Hid ((ownL l p k).length = j) ∧ Hid (y.ownsRow vl.heap.size 24 8 (.slice Al j cl) j (flatO (ownL l p k))) ∧ Hid (MapP y b1 (pM l k)) ∧ Hid (MapS y b2 (qM l mo kn k)) ∧ Grew w y ∧ vl.heap.size ≤ y.heap.size) (fun _ i _ => n - (intOf i).toNat)
  case atStart => exact ⟨0, none, 0, 0, Nat.zero_le _, rfl, rfl, rfl, World.ownsRow_nil _ _ _ _, HM1, HQ, G4.out, Nat.le_refl _⟩
  case round =>
    clear HM1 HQ G4
    obtain ⟨k, Al, j, cl, hk, rfl, rfl, EL, OW, HM1, HQ, hg, hvs⟩ := hrel
    have hjk := own_len (l := l) (p := p) (i := k)
    rw [EL.out] at hjk
    by_cases hlt : k < n
    · obtain ⟨b, o, x, rfl, hx, hr⟩ := (HH.out.1.grew hg).at_ oe_ok hlt
      have HX := Lib.hid hx
      have k0 : (0 : Int) ≤ (k : Int) := by omega
      have k1 : (k : Int) < (n : Int) := by omega
      obtain ⟨c0, c1, c2, c3, c4, c5, c6, c7⟩ := cells24 hr
      obtain ⟨wa, hwa⟩ : ∃ y, y = wr.alloc (.cells #[.int .i64 x.n, .string x.p, .string x.c, .int .i64 x.r, .int .i64 x.k, .int .i64 x.f, .int .i64 x.m, .bool x.fam] 24) := ⟨_, rfl⟩
      have ga : Grew wr wa := by rw [hwa]; exact (Grew.refl wr).alloc _
      have hrx : wa.rangeAt wr.heap.size 0 (oe x) := by rw [hwa]; exact range_new wr (oe x) 24
      obtain ⟨x0, x1, x2, x3, x4, x5, x6, x7⟩ := cells24n hrx
      obtain ⟨wb, up, M2, gb⟩ := (HM1.out.grew ga).update key9 map36 x.p true
      rw [← pM_succ HX.out] at M2
      have HM2 := Lib.hid M2
      have HQ2 := Lib.hid ((HQ.out.grew ga).kept gb (by simp; omega))
      have OWb := Lib.hid (own_kept (own_grew OW.out ga) gb (fun y hy => by injection hy with hy; omega))
      have gB : Grew w wb := (hg.trans ga).grown gb (fun j hj => by injection hj with hj; omega)
      have szb := gb.size
      have sza := ga.le
      have hnm : wr.heap.size ≠ b1 := cell_ne_map x0 (HM1.out.grew ga)
      have HRB := Lib.hid (range_far hrx gb (fun e => hnm (by injection e)))
      clear M2 gb hx hr hrx hnm HM1 HQ hg
      go_upto_region 10 with (fail)
      rw [← hwa]
      clear hwa c0 c1 c2 c3 c4 c5 c6 c7
      go_upto_region 11 with (fail)
      clear up x0 x1 x2 x3 x4 x5 x6 x7 ga
      by_cases hp : x.p = p
      · have qp : (x.p.toList == p.toList) = true := by rw [str_eq]; exact decide_eq_true hp
        have HP := Lib.hid hp
        obtain ⟨y0, y1, y2, y3, y4, y5, y6, y7⟩ := cells24n HRB.out
        have BI := Lib.hid (Recs.built (w := wb) oe_ok (t := 24) (l := [x]) (n := 1) #[.int .i64 x.n, .string x.p, .string x.c, .int .i64 x.r, .int .i64 x.k, .int .i64 x.f, .int .i64 x.m, .bool x.fam] rfl rfl (by decide))
        clear hp
        go_upto_region 13 with (at_builtin; refine wpList_append_sl _ rfl (.tmp 45) (.tmp 47) 22 rfl vl.heap.size 24 i0 _ 8 80 Try.underlying22 hi hz0 hz1 hz2 rfl (by decide) (.slice Al j cl) j _ rfl (OWb.out.alloc _) (some ⟨wb.heap.size, 0, none⟩) 1 1 _ rfl BI.out.2 (flat_one oe_ok _) (by unfold maxLen; omega) (by omega) (by simp; omega) ?_; intro v3 w3 own3 hg3 hat3; obtain ⟨A3, c3, rfl⟩ := own_form own3)
        have EL2 : Hid ((ownL l p (k + 1)).length = j + 1) := by unfold Hid; rw [own_in HX.out HP.out, List.length_append, EL.out]; rfl
        have OW2 : Hid (w3.ownsRow vl.heap.size 24 8 (.slice A3 (j + 1) c3) (j + 1) (flatO (ownL l p (k + 1)))) := by unfold Hid flatO; rw [own_in HX.out HP.out, List.flatMap_append]; exact own3
        have hlo := fun y hy => (OWb.out.lt y hy).1
        have gE : Grew w w3 := (gB.alloc _).grown hg3 (fun y hy => by have := hlo y hy; omega)
        have HM3 := Lib.hid ((HM2.out.grew ((Grew.refl wb).alloc _)).kept hg3 (fun e => by have := hlo b1 e.symm; omega))
        have HQ3 := Lib.hid ((HQ2.out.grew ((Grew.refl wb).alloc _)).kept hg3 (fun e => by have := hlo b2 e.symm; omega))
        have HR3 : Hid (w3.rangeAt wr.heap.size 0 (oe x)) := range_far (range_grew HRB.out ((Grew.refl wb).alloc _)) hg3 (fun e => by have := (OW.out.lt _ e.symm).2; omega)
        have sz3 := hg3.size
        simp at sz3
        obtain ⟨z, hz⟩ : ∃ z, z = j + 1 := ⟨_, rfl⟩
        clear y0 y1 y2 y3 y4 y5 y6 y7 own3 hg3 hat3 BI OWb hlo HM2 HQ2 gB HRB OW
        obtain ⟨y0, y1, y2, y3, y4, y5, y6, y7⟩ := cells24n HR3.out
        by_cases hkn : x.k ≤ kn
        · have qk : decide (x.k ≤ kn) = true := decide_eq_true hkn
          obtain ⟨wc, up, M4, gc⟩ := HQ3.out.update key3 map34 x.n (flB mo x)
          rw [← qM_in HX.out hkn] at M4
          have HQ4 := Lib.hid M4
          have HM4 := Lib.hid (HM3.out.kept gc (by simp; omega))
          have OW4 := Lib.hid (own_kept OW2.out gc (fun y hy => by injection hy with hy; omega))
          have gE4 : Grew w wc := gE.grown gc (fun j hj => by injection hj with hj; omega)
          have szc := gc.size
          unfold flB at up
          clear M4 gc hkn
          by_cases hf : x.f ≤ mo
          · have qf : decide (x.f ≤ mo) = true := decide_eq_true hf
            rw [qf, Bool.true_and] at up
            clear hf
            go_wp2_with fail
            go_roundw
            case rel => exact ⟨k + 1, A3, j + 1, c3, by omega, by go_num, rfl, EL2, OW4, HM4, HQ4, gE4, by omega⟩
            case measure => simp [intOf]; omega
          · have qf : decide (x.f ≤ mo) = false := decide_eq_false hf
            rw [qf, Bool.false_and] at up
            clear hf
            go_wp2_with fail
            go_roundw
            case rel => exact ⟨k + 1, A3, j + 1, c3, by omega, by go_num, rfl, EL2, OW4, HM4, HQ4, gE4, by omega⟩
            case measure => simp [intOf]; omega
        · have qk : decide (x.k ≤ kn) = false := decide_eq_false hkn
          have HQ4 : Hid (MapS w3 b2 (qM l mo kn (k + 1))) := by unfold Hid; rw [qM_out HX.out hkn]; exact HQ3.out
          clear hkn
          go_wp2_with fail
          go_roundw
          case rel => exact ⟨k + 1, A3, j + 1, c3, by omega, by go_num, rfl, EL2, OW2, HM3, HQ4, gE, by omega⟩
          case measure => simp [intOf]; omega
      · have qp : (x.p.toList == p.toList) = false := by rw [str_eq]; exact decide_eq_false hp
        have HP := Lib.hid hp
        obtain ⟨y0, y1, y2, y3, y4, y5, y6, y7⟩ := cells24n HRB.out
        clear hp
        go_upto_region 13 with (fail)
        have EL2 : Hid ((ownL l p (k + 1)).length = j) := by unfold Hid; rw [own_out HX.out HP.out]; exact EL.out
        have OW2 : Hid (wb.ownsRow vl.heap.size 24 8 (.slice Al j cl) j (flatO (ownL l p (k + 1)))) := by unfold Hid; rw [own_out HX.out HP.out]; exact OWb.out
        clear y0 y1 y2 y3 y4 y5 y6 y7 OWb OW
        obtain ⟨y0, y1, y2, y3, y4, y5, y6, y7⟩ := cells24n HRB.out
        by_cases hkn : x.k ≤ kn
        · have qk : decide (x.k ≤ kn) = true := decide_eq_true hkn
          obtain ⟨wc, up, M4, gc⟩ := HQ2.out.update key3 map34 x.n (flB mo x)
          rw [← qM_in HX.out hkn] at M4
          have HQ4 := Lib.hid M4
          have HM4 := Lib.hid (HM2.out.kept gc (by simp; omega))
          have OW4 := Lib.hid (own_kept OW2.out gc (fun y hy => by injection hy with hy; omega))
          have gE4 : Grew w wc := gB.grown gc (fun j hj => by injection hj with hj; omega)
          have szc := gc.size
          unfold flB at up
          clear M4 gc hkn
          by_cases hf : x.f ≤ mo
          · have qf : decide (x.f ≤ mo) = true := decide_eq_true hf
            rw [qf, Bool.true_and] at up
            clear hf
            go_wp2_with fail
            go_roundw
            case rel => exact ⟨k + 1, Al, j, cl, by omega, by go_num, rfl, EL2, OW4, HM4, HQ4, gE4, by omega⟩
            case measure => simp [intOf]; omega
          · have qf : decide (x.f ≤ mo) = false := decide_eq_false hf
            rw [qf, Bool.false_and] at up
            clear hf
            go_wp2_with fail
            go_roundw
            case rel => exact ⟨k + 1, Al, j, cl, by omega, by go_num, rfl, EL2, OW4, HM4, HQ4, gE4, by omega⟩
            case measure => simp [intOf]; omega
        · have qk : decide (x.k ≤ kn) = false := decide_eq_false hkn
          have HQ4 : Hid (MapS wb b2 (qM l mo kn (k + 1))) := by unfold Hid; rw [qM_out HX.out hkn]; exact HQ2.out
          clear hkn
          go_wp2_with fail
          go_roundw
          case rel => exact ⟨k + 1, Al, j, cl, by omega, by go_num, rfl, EL2, OW2, HM2, HQ4, gB, by omega⟩
          case measure => simp [intOf]; omega
    · obtain rfl : n = k := by omega
      have HO : Hid (Ords wr Al j cl (ownL l p n)) := ⟨Recs.own EL.out OW.out, fun y hy => HH.out.2 y (List.mem_of_mem_take (own_mem hy).1)⟩
      have hj : j ≤ 410 := by omega
      obtain ⟨P, hP⟩ : ∃ P, pM l n = P := ⟨_, rfl⟩
      obtain ⟨Q, hQ⟩ : ∃ Q, qM l mo kn n = Q := ⟨_, rfl⟩
      obtain ⟨W, hW⟩ : ∃ W, ownL l p n = W := ⟨_, rfl⟩
      have hll : l.length = n := HL.out
      have HSUM : Hid (sumF (fun p => (openL l p mo kn).length) P = (Q.filter (·.2)).length) := by
        have := person_sum (l := l) (mo := mo) (kn := kn) HV.out
        rw [hll, hP, hQ] at this
        exact this
      have HOWN : Hid (openL W p mo kn = openL l p mo kn) := by
        have := own_open (l := l) (p := p) (mo := mo) (kn := kn) HV.out
        rw [hll, hW] at this
        exact this
      have hQL : (Q.filter (·.2)).length ≤ 403 := by
        have h1 := List.length_filter_le (fun q : Int × Bool => q.2) Q
        have h2 := q_len l mo kn n
        rw [hQ] at h2
        omega
      rw [hP] at HM1
      rw [hQ] at HQ
      rw [hW] at HO
      obtain ⟨tot, htot⟩ : ∃ t, (Q.filter (·.2)).length = t := ⟨_, rfl⟩
      have HTOT := Lib.hid htot
      rw [htot] at HSUM hQL
      clear hP hQ hW htot hll EL OW hjk
      obtain ⟨wl, rn, IT, gl⟩ := HM1.out.range (P := Try.prog) map36
      obtain ⟨rr, hrr⟩ : ∃ r, r = wr.heap.size := ⟨_, rfl⟩
      rw [← hrr] at rn IT
      have ITH := Lib.hid IT
      have gL := Lib.hid (hg.trans gl)
      have hltr := IT.lt
      have hrl : w.heap.size ≤ rr := by rw [hrr]; exact hg.le
      have hr2 : b2 < rr := by rw [hrr]; exact HQ.out.lt
      replace HQ := Lib.hid (HQ.out.grew gl)
      replace HO := Lib.hid (HO.out.grew gl)
      clear HM1 IT hg gl hrr
      go_wp2_with fail
      clear rn
      go_loopw [15] (fun v y => ∃ (rest : List (ByteArray × Bool)) (s : Nat), v = .int .i64 s ∧ Hid (s + sumF (fun p => (openL l p mo kn).length) rest = tot) ∧ Hid (IterIs (fun n : ByteArray => Value.string n) (fun b : Bool => Value.bool b) y rr b1 P rest) ∧ Hid (MapS y b2 Q) ∧ Hid (Ords y Al j cl W) ∧ Grew w y) (fun _ y => iterLeft y b1 rr)
      case atStart => exact ⟨P, 0, rfl, by unfold Hid; rw [Nat.zero_add]; exact HSUM.out, ITH, HQ, HO, gL.out⟩
      case round =>
        clear ITH HQ HO gL
        obtain ⟨w9, rfl⟩ : ∃ wi : World, wi = wr := ⟨_, rfl⟩
        obtain ⟨rest, s, rfl, HSR, IT, HQ, HO, hg⟩ := hrel
        rcases IT.out.next (P := Try.prog) 0 with ⟨hnil, hnx⟩ | ⟨i, y, wn, hy, hnx, IT2, gn, hen⟩
        · subst hnil
          have hst : s = tot := by have := HSR.out; simp only [sumF] at this; omega
          obtain rfl := hst
          obtain ⟨wl2, rn2, IT2, gl2⟩ := HQ.out.range (P := Try.prog) map34
          obtain ⟨r2, hr2'⟩ : ∃ r, r = w9.heap.size := ⟨_, rfl⟩
          rw [← hr2'] at rn2 IT2
          have ITH := Lib.hid IT2
          have gL := Lib.hid (hg.trans gl2)
          have hltr2 := IT2.lt
          have hrl2 : w.heap.size ≤ r2 := by rw [hr2']; exact hg.le
          replace HO := Lib.hid (HO.out.grew gl2)
          clear HQ IT IT2 hg gl2 hr2' HSR
          go_wp2_with fail
          clear rn2 hnx
          go_loopw [16] (fun v y => ∃ (rest : List (Int × Bool)) (t : Nat), v = .int .i64 t ∧ Hid (t + (rest.filter (·.2)).length = s) ∧ Hid (IterIs (fun n : Int => Value.int .i64 n) (fun b : Bool => Value.bool b) y r2 b2 Q rest) ∧ Hid (Ords y Al j cl W) ∧ Grew w y) (fun _ y => iterLeft y b2 r2)
          case atStart => exact ⟨Q, 0, rfl, by unfold Hid; rw [Nat.zero_add]; exact HTOT.out, ITH, HO, gL.out⟩
          case round =>
            clear ITH HO gL
            obtain ⟨w8, rfl⟩ : ∃ wi : World, wi = wr := ⟨_, rfl⟩
            obtain ⟨rest, t, rfl, HSR, IT, HO, hg⟩ := hrel
            rcases IT.out.next (P := Try.prog) 0 with ⟨hnil, hnx⟩ | ⟨i, y, wn, hy, hnx, IT2, gn, hen⟩
            · subst hnil
              have hst : t = s := by have := HSR.out; simpa using this
              obtain rfl := hst
              have qe : ((t : Int) == (t : Int)) = true := by simp
              obtain ⟨ro, hro⟩ : ∃ ro, openL l p mo kn = ro := ⟨_, rfl⟩
              have HRO := Lib.hid hro
              have HRW : Hid (openL W p mo kn = ro) := by unfold Hid; rw [HOWN.out]; exact hro
              clear hro IT HSR
              go_wp2_with fail
              refine (open_val (HH.out.grew hg) (by omega) HRO.out).mono ?_
              rintro e v6 ⟨A6, n6, c6, rfl, h6, g6⟩
              have H6 := Lib.hid h6
              have HO6 := Lib.hid (HO.out.grew g6)
              have G6 := Lib.hid (hg.trans g6)
              clear h6 g6 HO hg
              go_wp2_with fail
              refine (open_val HO6.out (by omega) HRW.out).mono ?_
              rintro e v7 ⟨A7, n7, c7, rfl, h7, g7⟩
              have H7 := Lib.hid h7
              have H67 := Lib.hid (H6.out.grew g7)
              have G7 := Lib.hid (G6.out.trans g7)
              clear h7 g7 H6 HO6 G6
              go_wp2_with fail
              refine (same_val H67.out H7.out (decide_eq_true rfl)).mono ?_
              rintro e v8 ⟨rfl, g8⟩
              have gE := G7.out.trans g8
              go_wp2_with fail
              go_ret
              exact ⟨rfl, gE⟩
            · obtain ⟨q, d⟩ := y
              simp only at hnx hen
              have HST := Lib.hid (cnt_step hy)
              have gW : Grew w wn := hg.grown gn (fun y hy => by injection hy with hy; omega)
              have ITn := Lib.hid IT2
              have HOn : Hid (Ords wn Al j cl W) := ⟨recs_kept HO.out.1 gn (fun p v hc => cell_ne_iter hc IT.out), HO.out.2⟩
              have HLFT : Hid (iterLeft wn b2 r2 < iterLeft w8 b2 r2) := by
                unfold Hid
                rw [IT2.left, IT.out.left]
                have := (erase_perm hy).length_eq
                rw [List.length_cons] at this
                omega
              clear hy IT2 IT gn HO hg
              cases d with
              | true =>
                have HSB : Hid (t + 1 + ((rest.eraseIdx i).filter (·.2)).length = s) := by have h1 := HSR.out; have h2 := HST.out; simp only [if_true] at h2; unfold Hid; omega
                have htb : t ≤ 403 := by have h1 := HSB.out; omega
                clear HSR HST
                go_wp2_with fail
                go_roundw
                case rel => exact ⟨_, t + 1, by go_num, HSB, ITn, HOn, gW⟩
                case measure => exact HLFT.out
              | false =>
                have HSB : Hid (t + ((rest.eraseIdx i).filter (·.2)).length = s) := by have h1 := HSR.out; have h2 := HST.out; simp only [Bool.false_eq_true, if_false] at h2; unfold Hid; omega
                clear HSR HST
                go_wp2_with fail
                go_roundw
                case rel => exact ⟨_, t, rfl, HSB, ITn, HOn, gW⟩
                case measure => exact HLFT.out
        · obtain ⟨q, d⟩ := y
          simp only at hnx hen
          have HST := Lib.hid (sum_step (fun p => (openL l p mo kn).length) hy)
          have gW : Grew w wn := hg.grown gn (fun y hy => by injection hy with hy; omega)
          have ITn := Lib.hid IT2
          have HQn := Lib.hid (HQ.out.kept gn (by simp; omega))
          have HOn : Hid (Ords wn Al j cl W) := ⟨recs_kept HO.out.1 gn (fun p v hc => cell_ne_iter hc IT.out), HO.out.2⟩
          have HLFT : Hid (iterLeft wn b1 rr < iterLeft w9 b1 rr) := by
            unfold Hid
            rw [IT2.left, IT.out.left]
            have := (erase_perm hy).length_eq
            rw [List.length_cons] at this
            omega
          obtain ⟨ro, hro⟩ : ∃ ro, openL l q mo kn = ro := ⟨_, rfl⟩
          have HRO := Lib.hid hro
          clear hy IT2 IT gn HQ HO hg hro
          go_wp2_with fail
          refine (open_val (HH.out.grew gW) (by omega) HRO.out).mono ?_
          rintro e v6 ⟨A6, n6, c6, rfl, h6, g6⟩
          have hn6 : ro.length = n6 := h6.1.1
          have hsb : s + n6 + sumF (fun p => (openL l p mo kn).length) (rest.eraseIdx i) = tot := by have h1 := HSR.out; have h2 := HST.out; rw [HRO.out] at h2; omega
          have hsn : s + n6 ≤ 403 := by omega
          have HSB := Lib.hid hsb
          have ITa := Lib.hid (ITn.out.grew g6)
          have HQa := Lib.hid (HQn.out.grew g6)
          have HOa := Lib.hid (HOn.out.grew g6)
          have HLa : Hid (iterLeft v6 b1 rr = iterLeft wn b1 rr) := by unfold Hid; rw [(ITn.out.grew g6).left, ITn.out.left]
          have gE := gW.trans g6
          clear hsb h6 hn6 g6 ITn HQn HOn HST HSR gW
          go_wp2_with fail
          go_roundw
          case rel => exact ⟨_, s + n6, by go_num, HSB, ITa, HQa, HOa, gE⟩
          case measure => rw [HLa.out]; exact HLFT.out
theorem per_law (A : Option Addr) (n c : Nat) (l : List Ord) (p : ByteArray) (mo kn : Int) (w : World) (h : Ords w A n c l) : Calls Try.prog 7 #[.slice A n c, .string p, .int .i64 mo, .int .i64 kn] w fun e w' => e = .returned (.bool true) ∧ Grew w w' := by
  by_cases hs : n ≤ 403
  · cases hv : validB l with
    | true => exact per_main A n c l p mo kn w h hs hv
    | false => exact per_bad A n c l p mo kn w h hs hv
  · exact per_skip A n c l p mo kn w h h.1.le (decide_eq_false hs)
end Go.Proofs.Ytjpnodmcglcihaa
