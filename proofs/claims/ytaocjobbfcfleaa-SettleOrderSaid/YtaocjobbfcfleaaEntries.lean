/-
  settle.Entries.
-/
import Derived.Test.YtaocjobbfcfleaaEntry
namespace WageSet
open WageMap WageOrd
def pyM (ps : List Pay) : Nat → List (Int × Pay)
  | 0 => []
  | i + 1 => match ps[i]? with
    | some p => alPut p.id p (pyM ps i)
    | none => pyM ps i
theorem pyM_succ {ps : List Pay} {i : Nat} {p : Pay} (h : ps[i]? = some p) : pyM ps (i + 1) = alPut p.id p (pyM ps i) := by
  conv => lhs; unfold pyM
  rw [h]
theorem pyM_take {ps : List Pay} (h : psB ps ps.length = true) (a : Int) : ∀ {k : Nat}, k ≤ ps.length → alFind a (pyM ps k) = findP (ps.take k) a
  | 0, _ => by unfold findP; simp [pyM, alFind]
  | k + 1, hk => by
    have hx : ps[k]? = some ps[k] := List.getElem?_eq_getElem (by omega)
    have ih := pyM_take h a (show k ≤ ps.length by omega)
    rw [pyM_succ hx, List.take_add_one, hx]
    unfold findP at ih ⊢
    rw [List.find?_append, ← ih]
    by_cases e : ps[k].id = a
    · rw [← e, alFind_put_self]
      have h2 := (psB_at h (show k < ps.length by omega) hx).2
      have h3 : alFind ps[k].id (pyM ps k) = none := by
        rw [e, ih, List.find?_eq_none]
        intro x hx
        rw [List.any_eq_false] at h2
        rw [← e]
        exact h2 x hx
      rw [h3]; simp
    · rw [alFind_put_ne _ (fun h => e h.symm)]
      cases alFind a (pyM ps k) <;> simp [e]
theorem pyM_find {ps : List Pay} (h : psB ps ps.length = true) {a : Int} : alFind a (pyM ps ps.length) = findP ps a := by
  rw [pyM_take h a (Nat.le_refl _), List.take_length]
def evOk : Ev → Prop
  | .sent p => 0 ≤ p.id ∧ p.id ≤ 400000000000
  | .answ _ a => (0 ≤ a.q ∧ a.q ≤ 400000000000) ∧ (a.k = 2 ∨ a.k = 3 ∨ a.k = 4)
theorem ev_ok {d : Desk} (h : validB d = true) {e : Ev} (he : e ∈ evs d) : evOk e := by
  unfold evs sentEv answEv at he
  rw [List.take_length, List.take_length] at he
  rcases List.mem_append.1 he with he | he
  · obtain ⟨s, hs, rfl⟩ := List.mem_map.1 he
    exact (pay_parts (valid_sta h hs).1).1
  · obtain ⟨a, ha, rfl⟩ := List.mem_map.1 he
    obtain ⟨ha1, ha2⟩ := List.mem_filter.1 ha
    have h6 := (stand_parts (valid_parts h).2.2.1).2.1
    have hb : ansB a = true := ans_in h6 (by rw [List.take_length]; exact ha1)
    have hk := ans_k hb
    unfold movesB at ha2
    have hk1 : a.k ≠ 1 := by simpa using ha2
    exact ⟨(ans_parts hb).1, by omega⟩
end WageSet
namespace Go.Proofs.Ytaocjobbfcfleaa
open Go.RowKit Go.Proofs WageMem WageOrd WageRec WageMap WageReg WageSet

def evv : Ev → Value
  | .sent p => .iface 80 (.agg #[.int .i64 p.id, .string p.acc, .int .i64 p.c, .int .i64 p.d])
  | .answ p a => .iface 82 (.agg #[.int .i64 p.id, .string p.acc, .int .i64 p.c, .int .i64 p.d, .int .i64 a.q, .int .i64 a.id, .int .i64 a.k, .int .i64 a.c, .int .i64 a.d])
def vee (e : Ev) : List Value := [evv e]
theorem vee_ok : EncOk vee 1 where
  len := fun _ => rfl
  pos := by decide
  one := fun x u hu => by
    simp only [vee, List.mem_cons, List.not_mem_nil, or_false] at hu
    subst hu
    cases x <;> rfl
theorem info84 : (Try.prog.info? 84).map (fun i => (i.zero, i.size, i.bytes)) = some (some .nilIface, 1, 16) := by kernel_rfl
theorem map77 : Try.prog.underlying 77 = some (.map 3 27) := by kernel_rfl
theorem zero27 (w : World) : (zeroValue 27).run Try.prog w = .ok (.agg #[.int .i64 0, .string ByteArray.empty, .int .i64 0, .int .i64 0]) w := by kernel_rfl
abbrev MapY := MapIs (fun n : Int => Value.int .i64 n) pv
theorem ans_size {p : Pay} {a : Ans} (h : p.acc.size ≤ maxLen) : (answE p a).de.size ≤ maxLen ∧ (answE p a).cr.size ≤ maxLen := by
  have ht : transit.size ≤ maxLen := by unfold maxLen; decide
  have hb : bank.size ≤ maxLen := by unfold maxLen; decide
  have he : ByteArray.empty.size ≤ maxLen := by unfold maxLen; decide
  unfold answE
  split
  · exact ⟨ht, hb⟩
  · split
    · exact ⟨ht, h⟩
    · split
      · exact ⟨hb, h⟩
      · exact ⟨he, he⟩
theorem wf_ent {d : Desk} (h : WfS d.ss) : WfE (entL d) := fun x hx => by
  unfold entL at hx
  split at hx
  · have hx := (sortE_perm _).mem_iff.1 hx
    obtain ⟨e, he, rfl⟩ := List.mem_map.1 hx
    unfold evs sentEv answEv at he
    rcases List.mem_append.1 he with he | he
    · obtain ⟨s, hs, rfl⟩ := List.mem_map.1 he
      exact ⟨h s (List.mem_of_mem_take hs), by show transit.size ≤ maxLen; unfold maxLen; decide⟩
    · obtain ⟨a, ha, rfl⟩ := List.mem_map.1 he
      refine ans_size ?_
      unfold payAt
      cases hf : findP (paysOf d) a.id with
      | none => show ByteArray.empty.size ≤ maxLen; unfold maxLen; decide
      | some p =>
        unfold findP at hf
        exact WfP.of h p (List.mem_of_find?_eq_some hf)
  · simp at hx
/-- A contract's end: entries. -/
def RetEs (l : List Ent) (w : World) (r : Ending) (w' : World) : Prop := ∃ A n c, r = .returned (.slice A n c) ∧ Ents w' A n c l ∧ Grew w w'

set_option maxRecDepth 100000 in
set_option maxHeartbeats 32000000 in
theorem entries_any (A B : Option Addr) (n c m e : Nat) (d : Desk) (w : World) (h : DeskIs w A n c B m e d) : Calls Try.prog 19 #[.agg #[.slice A n c, .slice B m e]] w (RetEs (entL d) w) := by
  obtain ⟨i0, hi, hz0, hz1, hz2⟩ := info_parts info84
  have HH := Lib.hid h
  have HL := Lib.hid h.1.1.1
  have HLA := Lib.hid h.2.1
  obtain ⟨bd, hbd⟩ : ∃ b, b = w.heap.size := ⟨_, rfl⟩
  obtain ⟨wd, hwd⟩ : ∃ x, x = w.alloc (.cells #[.slice A n c, .slice B m e] 25) := ⟨_, rfl⟩
  have G0 : Hid (Grew w wd) := by unfold Hid; rw [hwd]; exact (Grew.refl w).alloc _
  have HRD0 : Hid (wd.rangeAt bd 0 [.slice A n c, .slice B m e]) := by unfold Hid; rw [hwd, hbd]; exact range_new w _ 25
  have hbdl : bd < wd.heap.size := by rw [hwd, hbd]; simp
  clear h
  cases hv : validB d with
  | false =>
    have HV := Lib.hid hv
    have HE0 : Hid (entL d = []) := by unfold Hid entL; rw [hv]; rfl
    clear hv
    go_enter Try.func19, Try.ntmps19
    go_wp2_with fail
    rw [← hwd]
    clear hwd
    refine (valid_val (HH.out.grew G0.out) HV.out).mono ?_
    rintro r w5 ⟨rfl, g5⟩
    go_wp2_with fail
    go_ret
    exact ⟨none, 0, 0, rfl, by rw [HE0.out]; exact ⟨Recs.none_, fun _ h => by simp at h⟩, G0.out.trans g5⟩
  | true =>
    have HV := Lib.hid hv
    have HPS := Lib.hid (stand_parts (valid_parts hv).2.2.1).1
    have hn4 : n ≤ 400 := by rw [← HL.out]; exact (valid_parts hv).1
    have hm4 : m ≤ 2000 := by rw [← HLA.out]; exact (valid_parts hv).2.1
    have hmm := @run_makeMap Try.prog
    clear hv
    go_enter Try.func19, Try.ntmps19
    go_wp2_with fail
    rw [← hwd, ← hbd]
    clear hwd hbd
    refine (valid_val (HH.out.grew G0.out) HV.out).mono ?_
    rintro r w5 ⟨rfl, g5⟩
    have M1 := MapIs.made (ek := fun n : Int => Value.int .i64 n) (ev := pv) w5
    obtain ⟨wm, hwm⟩ : ∃ x, x = w5.alloc (.map #[] 0) := ⟨_, rfl⟩
    have gm : Grew w5 wm := by rw [hwm]; exact (Grew.refl _).alloc _
    obtain ⟨bm, hbm⟩ : ∃ b, b = w5.heap.size := ⟨_, rfl⟩
    obtain ⟨B1, hB1⟩ : ∃ b, b = wm.heap.size := ⟨_, rfl⟩
    have hbm0 : bd ≠ bm := by have := Nat.lt_of_lt_of_le hbdl g5.le; omega
    have hmB : bm < B1 := by rw [hB1, hwm, hbm]; simp
    have hwm' : w.heap.size ≤ bm := by rw [hbm]; exact (G0.out.trans g5).le
    have hB1w : B1 ≤ wm.heap.size := by omega
    rw [← hwm, ← hbm] at M1
    have HM0 := Lib.hid M1
    have GW := Lib.hid ((G0.out.trans g5).trans gm)
    have HRD : Hid (wm.rangeAt bd 0 [.slice A n c, .slice B m e]) := range_grew HRD0.out (g5.trans gm)
    have hbdB : bd < B1 := by have := Nat.lt_of_lt_of_le hbdl (g5.trans gm).le; omega
    have hbdm : bd < wm.heap.size := Nat.lt_of_lt_of_le hbdl (g5.trans gm).le
    have hr0 := HRD.out 0 _ rfl
    simp only [Nat.zero_add] at hr0
    have HBM := Lib.hid hbm
    clear M1 gm G0 HRD0 g5 hbdl hbm hB1
    go_upto_region 5 with (fail)
    rw [← hwm, ← HBM.out]
    clear hwm HBM hmm
    go_wp2_with fail
    clear hr0
    go_loopw [4, 19] (fun v i y => ∃ (k : Nat) (C : Option Addr) (cc : Nat), k ≤ n ∧ i = .int .i64 k ∧ v = .slice C k cc ∧ Hid ((sentEv d k).length = k) ∧ Hid (y.ownsRow B1 84 1 (.slice C k cc) k ((sentEv d k).flatMap vee)) ∧ Hid (MapY y bm (pyM (paysOf d) k)) ∧ Hid (y.rangeAt bd 0 [.slice A n c, .slice B m e]) ∧ Grew w y ∧ B1 ≤ y.heap.size) (fun _ i _ => n - (intOf i).toNat)
    case atStart => exact ⟨0, none, 0, Nat.zero_le _, rfl, rfl, rfl, World.ownsRow_nil _ _ _ _, HM0, HRD, GW.out, hB1w⟩
    case round =>
      clear HM0 GW hB1w HRD
      obtain ⟨k, C, cc, hk, rfl, rfl, EL, OW, HM, HRD, hg, hB⟩ := hrel
      by_cases hlt : k < n
      · obtain ⟨b, o, x, rfl, hx, hr⟩ := (HH.out.1.1.grew hg).at_ se_ok hlt
        have HX := Lib.hid hx
        have k0 : (0 : Int) ≤ (k : Int) := by omega
        have k1 : (k : Int) < (n : Int) := by omega
        obtain ⟨c0, c1, c2, c3, c4, c5, c6⟩ := s_cells hr
        obtain ⟨wa, hwa⟩ : ∃ y, y = wr.alloc (.cells #[.int .i64 x.p.id, .string x.p.acc, .int .i64 x.p.c, .int .i64 x.p.d, .int .i64 x.st, .int .i64 x.pd, .int .i64 x.bk] 43) := ⟨_, rfl⟩
        have ga : Grew wr wa := by rw [hwa]; exact (Grew.refl wr).alloc _
        have HRX : Hid (wa.rangeAt wr.heap.size 0 (se x)) := by unfold Hid; rw [hwa]; exact range_new wr (se x) 43
        obtain ⟨x0, x1, x2, x3, x4, x5, x6⟩ := s_cells0 HRX.out
        have HMA := Lib.hid (HM.out.grew ga)
        have OWA := Lib.hid (own_grew OW.out ga)
        obtain ⟨wb, up, M2, gb⟩ := HMA.out.update key3 map77 x.p.id x.p
        rw [← pyM_succ (by unfold paysOf; rw [List.getElem?_map, HX.out]; rfl)] at M2
        rw [pv_eq] at up
        have HM2 := Lib.hid M2
        have OWB := Lib.hid (own_kept OWA.out gb (fun j hj => by injection hj with hj; omega))
        have hnm : (⟨wr.heap.size, 0, none⟩ : Addr).block ≠ bm := cell_ne_map x0 HMA.out
        have HRB : Hid (wb.rangeAt wr.heap.size 0 (se x)) := range_far HRX.out gb (fun e => hnm (by injection e))
        have HRDB := Lib.hid (range_far (range_grew HRD.out ga) gb (fun e => hbm0 (by injection e)))
        have gB : Grew w wb := (hg.trans ga).grown gb (fun j hj => by injection hj with hj; omega)
        have szb := gb.size
        have sza := ga.le
        have EL2 : Hid ((sentEv d (k + 1)).length = k + 1) := by unfold Hid; rw [sentEv_succ HX.out, List.length_append, EL.out]; rfl
        clear hx hr hg ga M2 gb HMA OWA OW HM hnm
        go_upto_region 8 with (fail)
        rw [← hwa]
        clear hwa c0 c1 c2 c3 c4 c5 c6
        go_upto_region 9 with (fail)
        clear up x0 x1 x2 x3 x4 x5 x6 HRX
        obtain ⟨z0, z1, z2, z3, z4, z5, z6⟩ := s_cells0 HRB.out
        have BI := Lib.hid (Recs.built (w := wb) vee_ok (t := 84) (l := [Ev.sent x.p]) (n := 1) #[.iface 80 (.agg #[.int .i64 x.p.id, .string x.p.acc, .int .i64 x.p.c, .int .i64 x.p.d])] rfl rfl (by decide))
        go_wp2_with (at_builtin; refine wpList_append_sl _ rfl (.tmp 29) (.tmp 34) 78 rfl B1 84 i0 _ 1 16 Try.underlying78 hi hz0 hz1 hz2 rfl (by decide) (.slice C k cc) k _ rfl (OWB.out.alloc _) (some ⟨wb.heap.size, 0, none⟩) 1 1 _ rfl BI.out.2 (flat_one vee_ok _) (by unfold maxLen; omega) (by omega) (by simp; omega) ?_; intro v3 w3 own3 hg3 hat3; obtain ⟨A3, c3, rfl⟩ := own_form own3)
        have OW3 : Hid (w3.ownsRow B1 84 1 (.slice A3 (k + 1) c3) (k + 1) ((sentEv d (k + 1)).flatMap vee)) := by unfold Hid; rw [sentEv_succ HX.out, List.flatMap_append]; simpa using own3
        have hlo := fun j hj => (OWB.out.lt j hj).1
        have gE : Grew w w3 := (gB.alloc _).grown hg3 (fun j hj => by have := hlo j hj; omega)
        have HM3 := Lib.hid ((HM2.out.grew ((Grew.refl wb).alloc _)).kept hg3 (fun e => by have := hlo bm e.symm; omega))
        have HRD3 := Lib.hid (range_far (range_grew HRDB.out ((Grew.refl wb).alloc _)) hg3 (fun e => by have := hlo bd e.symm; omega))
        have sz3 := hg3.size
        simp at sz3
        clear own3 hg3 hat3 BI hlo OWB HM2 HRD HRDB gB HRB z0 z1 z2 z3 z4 z5 z6
        go_roundw
        case rel => exact ⟨k + 1, A3, c3, by omega, by go_num, rfl, EL2, OW3, HM3, HRD3, gE, by omega⟩
        case measure => simp [intOf]; omega
      · obtain rfl : n = k := by omega
        have HMN : Hid (MapY wr bm (pyM (paysOf d) (paysOf d).length)) := by unfold Hid; rw [show (paysOf d).length = n by unfold paysOf; rw [List.length_map, HL.out]]; exact HM.out
        have hr1 := HRD.out 1 _ rfl
        simp only [Nat.zero_add] at hr1
        obtain ⟨S, hS⟩ : ∃ S, sentEv d n = S := ⟨_, rfl⟩
        rw [hS] at EL OW
        have HSS := Lib.hid hS
        clear HM hS
        go_wp2_with fail
        clear hr1
        go_loopw [4, 40] (fun v i y => ∃ (k j : Nat) (C : Option Addr) (cc : Nat), k ≤ m ∧ i = .int .i64 k ∧ v = .slice C j cc ∧ j ≤ n + k ∧ Hid ((S ++ answEv d k).length = j) ∧ Hid (y.ownsRow B1 84 1 (.slice C j cc) j ((S ++ answEv d k).flatMap vee)) ∧ Hid (MapY y bm (pyM (paysOf d) (paysOf d).length)) ∧ Grew w y ∧ B1 ≤ y.heap.size) (fun _ i _ => m - (intOf i).toNat)
        case atStart => exact ⟨0, n, C, cc, Nat.zero_le _, rfl, rfl, by omega, by unfold Hid; rw [show answEv d 0 = [] by unfold answEv; rfl, List.append_nil]; exact EL.out, by unfold Hid; rw [show answEv d 0 = [] by unfold answEv; rfl, List.append_nil]; exact OW.out, HMN, hg, hB⟩
        case round =>
          clear HMN EL OW hg hB
          obtain ⟨w2, rfl⟩ : ∃ wi : World, wi = wr := ⟨_, rfl⟩
          obtain ⟨k, j, C, cc, hk, rfl, rfl, hj, EL, OW, HM, hg, hB⟩ := hrel
          by_cases hlt : k < m
          · obtain ⟨b, o, x, rfl, hx, hr⟩ := (HH.out.2.grew hg).at_ ae_ok hlt
            have HX := Lib.hid hx
            have k0 : (0 : Int) ≤ (k : Int) := by omega
            have k1 : (k : Int) < (m : Int) := by omega
            obtain ⟨c0, c1, c2, c3, c4⟩ := a_cells hr
            obtain ⟨wa, hwa⟩ : ∃ y, y = w2.alloc (.cells #[.int .i64 x.q, .int .i64 x.id, .int .i64 x.k, .int .i64 x.c, .int .i64 x.d] 29) := ⟨_, rfl⟩
            have ga : Grew w2 wa := by rw [hwa]; exact (Grew.refl w2).alloc _
            have HRX : Hid (wa.rangeAt w2.heap.size 0 (ae x)) := by unfold Hid; rw [hwa]; exact range_new w2 (ae x) 29
            obtain ⟨x0, x1, x2, x3, x4⟩ := a_cells0 HRX.out
            have HMA := Lib.hid (HM.out.grew ga)
            have OWA := Lib.hid (own_grew OW.out ga)
            have gA := hg.trans ga
            have sza := ga.le
            clear hx hr ga OW HM hg
            cases hmv : movesB x with
            | false =>
              have q1 : (x.k != 1) = false := hmv
              have EL2 : Hid ((S ++ answEv d (k + 1)).length = j) := by unfold Hid; rw [answEv_out HX.out hmv]; exact EL.out
              have OW2 : Hid (wa.ownsRow B1 84 1 (.slice C j cc) j ((S ++ answEv d (k + 1)).flatMap vee)) := by unfold Hid; rw [answEv_out HX.out hmv]; exact OWA.out
              clear hmv EL OWA
              go_upto_region 14 with (fail)
              rw [← hwa]
              clear hwa c0 c1 c2 c3 c4
              go_wp2_with fail
              go_roundw
              case rel => exact ⟨k + 1, j, C, cc, by omega, by go_num, rfl, by omega, EL2, OW2, HMA, gA, by omega⟩
              case measure => simp [intOf]; omega
            | true =>
              have q1 : (x.k != 1) = true := hmv
              have hlk := HMA.out.lookup key3 map77 (zero27 _) x.id false
              rw [pyM_find HPS.out] at hlk
              simp only [Bool.false_eq_true, if_false] at hlk
              obtain ⟨p, hp⟩ : ∃ p, payAt d x.id = p := ⟨_, rfl⟩
              rw [show ((findP (paysOf d) x.id).map pv).getD (.agg #[.int .i64 0, .string ByteArray.empty, .int .i64 0, .int .i64 0]) = pv p by rw [← hp]; unfold payAt; cases findP (paysOf d) x.id <;> rfl, pv_eq] at hlk
              have EL2 : Hid ((S ++ answEv d (k + 1)).length = j + 1) := by unfold Hid; rw [answEv_in HX.out hmv, ← List.append_assoc, List.length_append, EL.out]; rfl
              have HFM : Hid ((S ++ answEv d (k + 1)).flatMap vee = (S ++ answEv d k).flatMap vee ++ [Ev.answ p x].flatMap vee) := by unfold Hid; rw [answEv_in HX.out hmv, hp, ← List.append_assoc, List.flatMap_append]
              have BI := Lib.hid (Recs.built (w := wa) vee_ok (t := 84) (l := [Ev.answ p x]) (n := 1) #[.iface 82 (.agg #[.int .i64 p.id, .string p.acc, .int .i64 p.c, .int .i64 p.d, .int .i64 x.q, .int .i64 x.id, .int .i64 x.k, .int .i64 x.c, .int .i64 x.d])] rfl rfl (by decide))
              clear hmv hp EL
              go_upto_region 14 with (fail)
              rw [← hwa]
              clear hwa c0 c1 c2 c3 c4
              go_wp2_with (at_builtin; refine wpList_append_sl _ rfl (.tmp 47) (.tmp 55) 78 rfl B1 84 i0 _ 1 16 Try.underlying78 hi hz0 hz1 hz2 rfl (by decide) (.slice C j cc) j _ rfl (OWA.out.alloc _) (some ⟨wa.heap.size, 0, none⟩) 1 1 _ rfl BI.out.2 (flat_one vee_ok _) (by unfold maxLen; omega) (by omega) (by simp; omega) ?_; intro v3 w3 own3 hg3 hat3; obtain ⟨A3, c3, rfl⟩ := own_form own3)
              have OW3 : Hid (w3.ownsRow B1 84 1 (.slice A3 (j + 1) c3) (j + 1) ((S ++ answEv d (k + 1)).flatMap vee)) := by unfold Hid; rw [HFM.out]; exact own3
              have hlo := fun j hj => (OWA.out.lt j hj).1
              have gE : Grew w w3 := (gA.alloc _).grown hg3 (fun j hj => by have := hlo j hj; omega)
              have HM3 := Lib.hid ((HMA.out.grew ((Grew.refl wa).alloc _)).kept hg3 (fun e => by have := hlo bm e.symm; omega))
              have sz3 := hg3.size
              simp at sz3
              clear own3 hg3 hat3 BI hlo OWA HMA gA HRX x0 x1 x2 x3 x4 hlk
              go_roundw
              case rel => exact ⟨k + 1, j + 1, A3, c3, by omega, by go_num, rfl, by omega, EL2, OW3, HM3, gE, by omega⟩
              case measure => simp [intOf]; omega
          · obtain rfl : m = k := by omega
            obtain ⟨L, hL⟩ : ∃ L, S ++ answEv d m = L := ⟨_, rfl⟩
            have HEV : Hid (evs d = L) := by unfold Hid evs; rw [HL.out, HLA.out, HSS.out]; exact hL
            rw [hL] at EL OW
            have HRV : Hid (Recs vee 1 w2 C j cc L) := Recs.own EL.out OW.out
            obtain ⟨j0, hj0, hy0, hy1, hy2⟩ := info_parts info50
            obtain ⟨B2, hB2⟩ : ∃ b, b = w2.heap.size := ⟨_, rfl⟩
            have hwB2 : w.heap.size ≤ B2 := by rw [hB2]; exact hg.le
            have HELN := EL
            clear HM OW hL EL
            go_wp2_with fail
            go_loopw [9, 60] (fun v i y => ∃ (k : Nat) (D : Option Addr) (dc : Nat), k ≤ j ∧ i = .int .i64 k ∧ v = .slice D k dc ∧ Hid (y.ownsRow B2 50 6 (.slice D k dc) k (((L.map entOf).take k).flatMap ne)) ∧ Grew w2 y) (fun _ i _ => j - (intOf i).toNat)
            case atStart => exact ⟨0, none, 0, Nat.zero_le _, rfl, rfl, World.ownsRow_nil _ _ _ _, Grew.refl _⟩
            case round =>
              obtain ⟨w3, rfl⟩ : ∃ wi : World, wi = wr := ⟨_, rfl⟩
              obtain ⟨k, D, dc, hk2, rfl, rfl, OW, hg3⟩ := hrel
              by_cases hlt2 : k < j
              · obtain ⟨b, o, ev, rfl, hx, hr⟩ := (HRV.out.grew hg3).at_ vee_ok hlt2
                have HX := Lib.hid hx
                have k0 : (0 : Int) ≤ (k : Int) := by omega
                have k1 : (k : Int) < (j : Int) := by omega
                have hc := hr 0 _ rfl
                simp only [Nat.mul_one, Nat.add_zero] at hc
                have HEX : Hid ((L.map entOf)[k]? = some (entOf ev)) := by unfold Hid; rw [List.getElem?_map, hx]; rfl
                have hmem : ev ∈ evs d := by rw [HEV.out]; exact List.mem_of_getElem? hx
                have hok := ev_ok HV.out hmem
                clear hx hr hmem
                cases ev with
                | sent p =>
                  have hcs : w3.cell? ⟨b, o + k, none⟩ = some (.iface 80 (.agg #[.int .i64 p.id, .string p.acc, .int .i64 p.c, .int .i64 p.d])) := hc
                  clear hc
                  go_wp2_with fail
                  refine (sent_any p _ hok).mono ?_
                  rintro r w5 ⟨rfl, g5⟩
                  rw [nv_eq]
                  have OW5 := Lib.hid (own_grew OW.out g5)
                  have g35 := hg3.trans g5
                  have hle5 := g35.le
                  have BI := Lib.hid (Recs.built (w := w5) ne_ok (t := 50) (l := [sentE p]) (n := 1) #[.int .i64 (sentE p).id, .string (sentE p).de, .string (sentE p).cr, .int .i64 (sentE p).c, .int .i64 (sentE p).d, .int .i64 (sentE p).b] rfl rfl (by decide))
                  have HF2 : Hid (((L.map entOf).take (k + 1)).flatMap ne = ((L.map entOf).take k).flatMap ne ++ ne (sentE p)) := flat_snoc ne _ _ _ HEX.out
                  clear hcs g5 OW
                  go_wp2_with (at_builtin; refine wpList_append_sl _ rfl (.tmp 64) (.tmp 67) 38 rfl B2 50 j0 _ 6 64 Try.underlying38 hj0 hy0 hy1 hy2 rfl (by decide) (.slice D k dc) k _ rfl (OW5.out.alloc _) (some ⟨w5.heap.size, 0, none⟩) 1 1 _ rfl BI.out.2 (flat_one ne_ok _) (by unfold maxLen; omega) (by omega) (by simp; omega) ?_; intro v3 w7 own3 hg7 hat3; obtain ⟨A3, c3, rfl⟩ := own_form own3)
                  have OW7 : Hid (w7.ownsRow B2 50 6 (.slice A3 (k + 1) c3) (k + 1) (((L.map entOf).take (k + 1)).flatMap ne)) := by unfold Hid; rw [HF2.out]; simpa using own3
                  have hlo := fun j hj => (OW5.out.lt j hj).1
                  have gE : Grew w2 w7 := (g35.alloc _).grown hg7 (fun j hj => by have := hlo j hj; omega)
                  clear own3 hg7 hat3 BI hlo OW5 g35
                  go_roundw
                  case rel => exact ⟨k + 1, A3, c3, by omega, by go_num, rfl, OW7, gE⟩
                  case measure => simp [intOf]; omega
                | answ p a =>
                  have hcs : w3.cell? ⟨b, o + k, none⟩ = some (.iface 82 (.agg #[.int .i64 p.id, .string p.acc, .int .i64 p.c, .int .i64 p.d, .int .i64 a.q, .int .i64 a.id, .int .i64 a.k, .int .i64 a.c, .int .i64 a.d])) := hc
                  clear hc
                  go_wp2_with fail
                  refine (answ_any p a _ hok.1 hok.2).mono ?_
                  rintro r w5 ⟨rfl, g5⟩
                  rw [nv_eq]
                  have OW5 := Lib.hid (own_grew OW.out g5)
                  have g35 := hg3.trans g5
                  have hle5 := g35.le
                  have BI := Lib.hid (Recs.built (w := w5) ne_ok (t := 50) (l := [answE p a]) (n := 1) #[.int .i64 (answE p a).id, .string (answE p a).de, .string (answE p a).cr, .int .i64 (answE p a).c, .int .i64 (answE p a).d, .int .i64 (answE p a).b] rfl rfl (by decide))
                  have HF2 : Hid (((L.map entOf).take (k + 1)).flatMap ne = ((L.map entOf).take k).flatMap ne ++ ne (answE p a)) := flat_snoc ne _ _ _ HEX.out
                  clear hcs g5 OW
                  go_wp2_with (at_builtin; refine wpList_append_sl _ rfl (.tmp 64) (.tmp 67) 38 rfl B2 50 j0 _ 6 64 Try.underlying38 hj0 hy0 hy1 hy2 rfl (by decide) (.slice D k dc) k _ rfl (OW5.out.alloc _) (some ⟨w5.heap.size, 0, none⟩) 1 1 _ rfl BI.out.2 (flat_one ne_ok _) (by unfold maxLen; omega) (by omega) (by simp; omega) ?_; intro v3 w7 own3 hg7 hat3; obtain ⟨A3, c3, rfl⟩ := own_form own3)
                  have OW7 : Hid (w7.ownsRow B2 50 6 (.slice A3 (k + 1) c3) (k + 1) (((L.map entOf).take (k + 1)).flatMap ne)) := by unfold Hid; rw [HF2.out]; simpa using own3
                  have hlo := fun j hj => (OW5.out.lt j hj).1
                  have gE : Grew w2 w7 := (g35.alloc _).grown hg7 (fun j hj => by have := hlo j hj; omega)
                  clear own3 hg7 hat3 BI hlo OW5 g35
                  go_roundw
                  case rel => exact ⟨k + 1, A3, c3, by omega, by go_num, rfl, OW7, gE⟩
                  case measure => simp [intOf]; omega
              · obtain rfl : k = j := by omega
                have HFIN : Hid (w3.ownsRow B2 50 6 (.slice D k dc) k (flatE (L.map entOf))) := by
                  have := OW.out
                  rw [List.take_of_length_le (by rw [List.length_map, HELN.out]; exact Nat.le_refl _)] at this
                  exact this
                have HLEN : Hid ((L.map entOf).length = k) := by unfold Hid; rw [List.length_map]; exact HELN.out
                have HND : Hid (((L.map entOf).map (·.id)).Nodup) := by unfold Hid; rw [← HEV.out]; exact evs_nodup HV.out
                have HEN : Hid (entL d = sortE (L.map entOf)) := by unfold Hid entL; rw [HV.out, HEV.out]; rfl
                have gW := hg.trans hg3
                have gWH := Lib.hid gW
                clear OW HRV
                rcases hD : D with _ | ad
                · subst hD
                  obtain ⟨hk0, hd0⟩ := (Sl.own HFIN.out).2.2.2.2 rfl
                  subst hk0 hd0
                  have hnil : L.map entOf = [] := List.eq_nil_of_length_eq_zero HLEN.out
                  have HE0 : Hid (entL d = []) := by unfold Hid; rw [HEN.out, hnil]; rfl
                  clear hnil
                  go_wp2_with fail
                  refine (sort_none 0 _).mono ?_
                  rintro r w6 ⟨rfl, rfl⟩
                  go_wp2_with fail
                  go_ret
                  exact ⟨none, 0, 0, rfl, by rw [HE0.out]; exact ⟨Recs.none_, fun _ h => by simp at h⟩, gWH.out⟩
                · subst hD
                  obtain ⟨g, hgg⟩ : ∃ g, (some ad : Option Addr) = some ⟨g, 0, none⟩ := by
                    rcases HFIN.out.2 with ⟨hv0, _⟩ | ⟨g, cap, cur, hv0, _⟩
                    · cases hv0
                    · injection hv0 with e1 e2 e3; exact ⟨g, e1⟩
                  rw [hgg] at HFIN ⊢
                  have hgl := HFIN.out.lt g rfl
                  clear hgg
                  go_wp2_with fail
                  refine (sort_some g k dc (L.map entOf) _ HFIN.out HLEN.out (by omega) w gWH.out (by omega) hgl.2).mono ?_
                  rintro r w6 ⟨rfl, E', hperm, hsrt, hrec, g6⟩
                  have HEQ : Hid (E' = entL d) := by unfold Hid; rw [HEN.out]; exact sortE_eq hperm hsrt HND.out
                  have HR := Lib.hid hrec
                  clear hperm hsrt hrec
                  go_wp2_with fail
                  go_ret
                  exact ⟨some ⟨g, 0, none⟩, k, dc, rfl, ⟨by rw [← HEQ.out]; exact HR.out, wf_ent HH.out.1.2⟩, g6⟩
end Go.Proofs.Ytaocjobbfcfleaa
