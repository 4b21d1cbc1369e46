/-
  orders.Open.
-/
import Derived.Test.YtjpnodmcglcihaaSort
import Derived.Test.YtjpnodmcglcihaaIterL
namespace Go.Proofs.Ytjpnodmcglcihaa
open Go.RowKit Go.Proofs WageMem WageOrd WageRec WageMap WageReg

/-- A contract's end: a slice of orders to be read. -/
def RetA (l : List Ord) (w : World) (r : Ending) (w' : World) : Prop := ∃ A n c, r = .returned (.slice A n c) ∧ Ords w' A n c l ∧ Grew w w'
theorem cM_in {l : List Ord} {k : Nat} {x : Ord} {p : ByteArray} {kn : Int} (hx : l[k]? = some x) (h1 : x.p = p) (h2 : x.k ≤ kn) : cM l p kn (k + 1) = alPut x.n x (cM l p kn k) := by
  conv => lhs; unfold cM
  simp [hx, h1, h2]
theorem cM_out {l : List Ord} {k : Nat} {x : Ord} {p : ByteArray} {kn : Int} (hx : l[k]? = some x) (h : ¬ (x.p = p ∧ x.k ≤ kn)) : cM l p kn (k + 1) = cM l p kn k := by
  conv => lhs; unfold cM
  simp only [hx]
  rw [if_neg (by simpa using h)]
/-- What has been collected and what is still to come. -/
def Coll (month : Int) (m rest : List (Int × Ord)) (E : List Ord) : Prop := (E ++ (rest.map Prod.snd).filter (opB month)).Perm ((m.map Prod.snd).filter (opB month))
theorem coll_in {month : Int} {m rest : List (Int × Ord)} {E : List Ord} {i : Nat} {q : Int × Ord} (h : Coll month m rest E) (hq : rest[i]? = some q) (ho : opB month q.2 = true) : Coll month m (rest.eraseIdx i) (E ++ [q.2]) := by
  unfold Coll at *
  refine List.Perm.trans ?_ h
  rw [List.append_assoc]
  refine List.Perm.append_left _ ?_
  have h1 := ((erase_perm hq).map Prod.snd).filter (opB month)
  rw [List.map_cons, List.filter_cons, if_pos ho] at h1
  exact h1
theorem coll_out {month : Int} {m rest : List (Int × Ord)} {E : List Ord} {i : Nat} {q : Int × Ord} (h : Coll month m rest E) (hq : rest[i]? = some q) (ho : opB month q.2 = false) : Coll month m (rest.eraseIdx i) E := by
  unfold Coll at *
  refine List.Perm.trans (List.Perm.append_left _ ?_) h
  have h1 := ((erase_perm hq).map Prod.snd).filter (opB month)
  rw [List.map_cons, List.filter_cons, if_neg (by rw [ho]; simp)] at h1
  exact h1
theorem coll_len {month : Int} {m rest : List (Int × Ord)} {E : List Ord} (h : Coll month m rest E) : E.length ≤ m.length := by
  have h1 := h.length_eq
  have h2 := List.length_filter_le (opB month) (m.map Prod.snd)
  rw [List.length_append] at h1
  rw [List.length_map] at h2
  omega

theorem by25_any (S : Nat) (w : World) : Calls Try.prog 25 #[.slice (some ⟨S, 0, none⟩) 2 2] w fun e w' => e = .returned (.func (.func 34) #[] #[.pointer (some ⟨w.heap.size, 0, none⟩)]) ∧ Grew w w' ∧ w'.cell? ⟨w.heap.size, 0, none⟩ = some (.slice (some ⟨S, 0, none⟩) 2 2) := by
  go_enter Try.func25, Try.ntmps25
  go_wp2_with fail
  go_ret
  exact ⟨rfl, (Grew.refl w).alloc _, by simp⟩

set_option maxRecDepth 100000 in
set_option maxHeartbeats 8000000 in
theorem open_any (A : Option Addr) (n c : Nat) (l : List Ord) (p : ByteArray) (mo kn : Int) (w : World) (h : Ords w A n c l) (hn : n ≤ 410) :
    Calls Try.prog 17 #[.slice A n c, .string p, .int .i64 mo, .int .i64 kn] w (RetA (openL l p mo kn) w) := by
  obtain ⟨i0, hi, hz0, hz1, hz2⟩ := info_parts info24
  have HH := Lib.hid h
  have HL := Lib.hid h.1.1
  have hmm := @run_makeMap Try.prog
  obtain ⟨vl, hvl⟩ : ∃ b, validB l = b := ⟨_, rfl⟩
  have HVL := Lib.hid hvl
  clear h hvl
  go_enter Try.func17, Try.ntmps17
  go_wp2_with fail
  refine (valid_val HH.out HVL.out).mono ?_
  rintro e w1 ⟨rfl, g1⟩
  cases vl with
  | false =>
    have HV := Lib.hid (openL_not (p := p) (month := mo) (kn := kn) HVL.out)
    go_wp2_with fail
    go_ret
    exact ⟨none, 0, 0, rfl, by rw [HV.out]; exact ⟨Recs.none_, fun x hx => by simp at hx⟩, g1⟩
  | true =>
    have M1 := MapIs.made (ek := fun n : Int => Value.int .i64 n) (ev := ov) w1
    obtain ⟨wm, hwm⟩ : ∃ x, x = w1.alloc (.map #[] 0) := ⟨_, rfl⟩
    have gm : Grew w wm := by rw [hwm]; exact g1.alloc _
    rw [← hwm] at M1
    obtain ⟨b1, hb1⟩ : ∃ b, b = w1.heap.size := ⟨_, rfl⟩
    have hle1 : w.heap.size ≤ b1 := by rw [hb1]; exact g1.le
    rw [← hb1] at M1
    have HM1 := Lib.hid M1
    have GM := Lib.hid gm
    have HB1 := Lib.hid hb1
    clear M1 gm hb1
    go_wp2_with fail
    rw [← hwm, ← HB1.out]
    clear hwm HB1 g1
    go_loopw [21] (fun i wr => ∃ k : Nat, k ≤ n ∧ i = .int .i64 k ∧ Hid (MapO wr b1 (cM l p kn k)) ∧ Grew w wr) (fun i _ => n - (intOf i).toNat)
    case atStart => exact ⟨0, Nat.zero_le _, rfl, HM1, GM.out⟩
    case round =>
      clear HM1 GM
      obtain ⟨k, hk, rfl, HM1, hg⟩ := hrel
      have hlb1 := HM1.out.lt
      by_cases hlt : k < n
      · obtain ⟨b, o, x, rfl, hx, hr⟩ := (HH.out.1.grew hg).at_ oe_ok hlt
        have HX := Lib.hid hx
        have i0' : (0 : Int) ≤ (k : Int) := by omega
        have i1' : (k : Int) < (n : Int) := by omega
        obtain ⟨c0, c1, c2, c3, c4, c5, c6, c7⟩ := cells24 hr
        obtain ⟨wa, hwa⟩ : ∃ y, y = wr.alloc (.cells #[.int .i64 x.n, .string x.p, .string x.c, .int .i64 x.r, .int .i64 x.k, .int .i64 x.f, .int .i64 x.m, .bool x.fam] 24) := ⟨_, rfl⟩
        have ga : Grew wr wa := by rw [hwa]; exact (Grew.refl wr).alloc _
        have hrx : wa.rangeAt wr.heap.size 0 (oe x) := by rw [hwa]; exact range_new wr (oe x) 24
        obtain ⟨x0, x1, x2, x3, x4, x5, x6, x7⟩ := cells24n hrx
        clear hx hr hrx
        by_cases hp : x.p = p
        · have qp : (x.p.toList == p.toList) = true := by rw [str_eq]; exact decide_eq_true hp
          by_cases hkn : x.k ≤ kn
          · have qk : decide (x.k ≤ kn) = true := decide_eq_true hkn
            obtain ⟨wb, up, M2, gb⟩ := (HM1.out.grew ga).update key3 map33 x.n x
            rw [← cM_in HX.out hp hkn] at M2
            rw [ov_eq] at up
            have HM2 := Lib.hid M2
            have gE : Grew w wb := (hg.trans ga).grown gb (fun j hj => by injection hj with hj; omega)
            clear M2 gb hp hkn
            go_upto_region 7 with (fail)
            rw [← hwa]
            clear hwa c0 c1 c2 c3 c4 c5 c6 c7
            go_wp2_with fail
            go_roundw
            case rel => exact ⟨k + 1, by omega, by go_num, HM2, gE⟩
            case measure => simp [intOf]; omega
          · have qk : decide (x.k ≤ kn) = false := decide_eq_false hkn
            have HM2 : Hid (MapO wa b1 (cM l p kn (k + 1))) := by unfold Hid; rw [cM_out HX.out (fun h => hkn h.2)]; exact HM1.out.grew ga
            have gE : Grew w wa := hg.trans ga
            clear hp hkn
            go_upto_region 7 with (fail)
            rw [← hwa]
            clear hwa c0 c1 c2 c3 c4 c5 c6 c7
            go_wp2_with fail
            go_roundw
            case rel => exact ⟨k + 1, by omega, by go_num, HM2, gE⟩
            case measure => simp [intOf]; omega
        · have qp : (x.p.toList == p.toList) = false := by rw [str_eq]; exact decide_eq_false hp
          have HM2 : Hid (MapO wa b1 (cM l p kn (k + 1))) := by unfold Hid; rw [cM_out HX.out (fun h => hp h.1)]; exact HM1.out.grew ga
          have gE : Grew w wa := hg.trans ga
          clear hp
          go_upto_region 7 with (fail)
          rw [← hwa]
          clear hwa c0 c1 c2 c3 c4 c5 c6 c7
          go_wp2_with fail
          go_roundw
          case rel => exact ⟨k + 1, by omega, by go_num, HM2, gE⟩
          case measure => simp [intOf]; omega
      · obtain ⟨m, hm⟩ : ∃ m, cM l p kn l.length = m := ⟨_, rfl⟩
        have HM2 : Hid (MapO wr b1 m) := by have := HM1.out; rw [show k = l.length by rw [HL.out]; omega, hm] at this; exact this
        have HMM := Lib.hid hm
        have hml : m.length ≤ 410 := by rw [← hm]; have := cM_len l p kn l.length; rw [HL.out] at this; rw [HL.out]; omega
        obtain ⟨wl, rn, IT, gl⟩ := HM2.out.range (P := Try.prog) map33
        obtain ⟨r, hr⟩ : ∃ r, r = wr.heap.size := ⟨_, rfl⟩
        rw [← hr] at rn IT
        have ITH := Lib.hid IT
        have gL := Lib.hid (hg.trans gl)
        have hltr := IT.lt
        have hrl : w.heap.size ≤ r := by rw [hr]; exact hg.le
        clear hm HM1 HM2 IT hg gl hr
        go_wp2_with fail
        clear rn
        go_loopw [12] (fun v x => ∃ (rest : List (Int × Ord)) (E : List Ord) (Al : Option Addr) (j cl : Nat), v = .slice Al j cl ∧ Hid (IterIs (fun n : Int => Value.int .i64 n) ov x r b1 m rest) ∧ Hid (Coll mo m rest E) ∧ Hid (E.length = j) ∧ Hid (x.ownsRow wl.heap.size 24 8 (.slice Al j cl) j (flatO E)) ∧ wl.heap.size ≤ x.heap.size ∧ Grew w x) (fun _ x => iterLeft x b1 r)
        case atStart => exact ⟨m, [], none, 0, 0, rfl, ITH, by simp [Hid, Coll], rfl, World.ownsRow_nil _ _ _ _, Nat.le_refl _, gL.out⟩
        case round =>
          obtain ⟨wo, rfl⟩ : ∃ wo : World, wo = wr := ⟨_, rfl⟩
          obtain ⟨rest, E, Al, j, cl, rfl, IT, CO, EL, OW, hwlx, hg⟩ := hrel
          have hcl := coll_len CO.out
          have hj : j ≤ 410 := by have := EL.out; omega
          rcases IT.out.next (P := Try.prog) 0 with ⟨hnil, hnx⟩ | ⟨i, q, wn, hq, hnx, IT2, gn, hen⟩
          · subst hnil
            have HE : Hid (E.Perm ((m.map Prod.snd).filter (opB mo))) := by have := CO.out; unfold Coll at this; unfold Hid; simpa using this
            obtain ⟨ws, hws⟩ : ∃ y, y = wo.alloc (.cells #[.func (.func 26) #[] #[], .func (.func 28) #[] #[]] 48) := ⟨_, rfl⟩
            have gs : Grew wo ws := by rw [hws]; exact (Grew.refl wo).alloc _
            have s0 : ws.cell? ⟨wo.heap.size, 0, none⟩ = some (.func (.func 26) #[] #[]) := by rw [hws]; simp
            have s1 : ws.cell? ⟨wo.heap.size, 1, none⟩ = some (.func (.func 28) #[] #[]) := by rw [hws]; simp
            go_wp2_with fail
            rw [← hws]
            clear hws hnx
            refine (by25_any _ _).mono ?_
            rintro e wk ⟨rfl, gk, kc⟩
            have t0 := gk.cell s0
            have t1 := gk.cell s1
            have OW2 := Lib.hid (own_grew (own_grew OW.out gs) gk)
            have hlw := hg.le
            have hsz1 := gs.le
            have hsz2 := gk.le
            have hlt1 : wo.heap.size < ws.heap.size := World.block_lt_of_cell? _ _ s0
            have GK := Lib.hid ((hg.trans gs).trans gk)
            have hwl := gL.out.le
            clear s0 s1 gs gk
            go_wp2_with fail
            cases Al with
            | none =>
              obtain ⟨rfl, rfl⟩ : j = 0 ∧ cl = 0 := (Sl.own OW2.out).2.2.2.2 rfl
              have hE0 : E = [] := List.eq_nil_of_length_eq_zero EL.out
              have HO : Hid ([] = openL l p mo kn) := by
                refine open_eq HVL.out (E := E) (by rw [HMM.out]; exact HE.out) (by rw [hE0]) List.Pairwise.nil
              clear hE0
              refine (sort_none 0 _ _).mono ?_
              rintro e w9 ⟨rfl, rfl⟩
              go_wp2_with fail
              go_ret
              exact ⟨none, 0, 0, rfl, by rw [← HO.out]; exact ⟨Recs.none_, fun x hx => by simp at hx⟩, GK.out⟩
            | some ad =>
              obtain ⟨g, hgA, hgb⟩ : ∃ g, ad = ⟨g, 0, none⟩ ∧ wl.heap.size ≤ g := by
                rcases OW2.out.2 with ⟨hv, _⟩ | ⟨g, cap, cur, hv, hb, _⟩
                · cases hv
                · injection hv with e1; injection e1 with e1; exact ⟨g, e1, hb⟩
              subst hgA
              have hgo : g < wo.heap.size := (OW.out.lt g rfl).2
              refine (sort_some g j cl ws.heap.size wo.heap.size E wk OW2.out EL.out (by omega) w GK.out (by omega) (by omega) kc t0 t1 (by omega) (by omega)).mono ?_
              rintro e w9 ⟨rfl, E', hp', hs', hR, g9⟩
              have HO := Lib.hid (open_eq HVL.out (E := E) (by rw [HMM.out]; exact HE.out) hp' hs')
              have HR := Lib.hid hR
              have HW : Hid (Wf E') := fun x hx => HH.out.2 x (openL_mem (by rw [← HO.out]; exact hx)).1
              clear hp' hs' hR kc t0 t1
              go_wp2_with fail
              go_ret
              exact ⟨some ⟨g, 0, none⟩, j, cl, rfl, by rw [← HO.out]; exact ⟨HR.out, HW.out⟩, g9⟩
          · rw [ov_eq] at hnx hen
            obtain ⟨q1, x⟩ := q
            simp only at hnx hen
            have HQ := Lib.hid hq
            have gW : Grew w wn := hg.grown gn (fun y hy => by injection hy with hy; have := gL.out.le; omega)
            have OWn := Lib.hid (own_kept OW.out gn (fun y hy => by injection hy with hy; omega))
            have ITn := Lib.hid IT2
            have HLFT : Hid (iterLeft wn b1 r < iterLeft wo b1 r) := by
              unfold Hid
              rw [IT2.left, IT.out.left]
              have := (erase_perm hq).length_eq
              rw [List.length_cons] at this
              omega
            obtain ⟨wa, hwa⟩ : ∃ y, y = wn.alloc (.cells #[.int .i64 x.n, .string x.p, .string x.c, .int .i64 x.r, .int .i64 x.k, .int .i64 x.f, .int .i64 x.m, .bool x.fam] 24) := ⟨_, rfl⟩
            have ga : Grew wn wa := by rw [hwa]; exact (Grew.refl wn).alloc _
            have hrx : wa.rangeAt wn.heap.size 0 (oe x) := by rw [hwa]; exact range_new wn (oe x) 24
            obtain ⟨c0, c1, c2, c3, c4, c5, c6, c7⟩ := cells24n hrx
            have hllw := hg.le
            have szn := gn.size
            have hwl := OW.out
            clear hq gn IT2 IT OW hrx hwl
            have HLa : Hid (iterLeft wa b1 r = iterLeft wn b1 r) := by unfold Hid; rw [(ITn.out.grew ga).left, ITn.out.left]
            by_cases hf : x.f ≤ mo
            · have qf : decide (x.f ≤ mo) = true := decide_eq_true hf
              by_cases hm0 : x.m = 0
              · have qm : (x.m != 0) = false := by rw [bne_eq_false_iff_eq]; exact hm0
                have CO2 := Lib.hid (coll_out CO.out HQ.out (by unfold opB; rw [qm]; simp))
                clear hm0 hf
                go_upto_region 14 with (fail)
                rw [← hwa]
                clear hwa
                go_wp2_with fail
                go_roundw
                case rel => exact ⟨_, E, Al, j, cl, rfl, Lib.hid (ITn.out.grew ga), CO2, EL, Lib.hid (own_grew OWn.out ga), by have := ga.le; omega, gW.trans ga⟩
                case measure => rw [HLa.out]; exact HLFT.out
              · have qm : (x.m != 0) = true := by rw [bne_iff_ne]; exact hm0
                have CO2 := Lib.hid (coll_in CO.out HQ.out (by unfold opB; rw [qm, qf]; rfl))
                have BI := Lib.hid (Recs.built (w := wa) oe_ok (t := 24) (l := [x]) (n := 1) #[.int .i64 x.n, .string x.p, .string x.c, .int .i64 x.r, .int .i64 x.k, .int .i64 x.f, .int .i64 x.m, .bool x.fam] rfl rfl (by decide))
                have hla := ga.le
                clear hm0 hf
                go_upto_region 14 with (fail)
                rw [← hwa]
                clear hwa
                go_wp2_with (at_builtin; refine wpList_append_sl _ rfl (.tmp 55) (.tmp 57) 22 rfl wl.heap.size 24 i0 _ 8 80 Try.underlying22 hi hz0 hz1 hz2 rfl (by decide) (.slice Al j cl) j _ rfl ((own_grew OWn.out ga).alloc _) (some ⟨wa.heap.size, 0, none⟩) 1 1 _ rfl BI.out.2 (flat_one oe_ok _) (by unfold maxLen; omega) (by omega) (by simp; omega) ?_; intro v3 w3 own3 hg3 hat3; obtain ⟨A3, c3, rfl⟩ := own_form own3)
                have OW3 : Hid (w3.ownsRow wl.heap.size 24 8 (.slice A3 (j + 1) c3) (j + 1) (flatO (E ++ [x]))) := by unfold Hid flatO; rw [List.flatMap_append]; exact own3
                have hown := own_grew OWn.out ga
                have IT3 := Lib.hid (((ITn.out.grew ga).grew ((Grew.refl wa).alloc _)).kept hg3 (fun e => by have := (hown.lt b1 e.symm).1; omega) (fun e => by have := (hown.lt r e.symm).1; omega))
                have gE : Grew w w3 := ((gW.trans ga).alloc _).grown hg3 (fun y hy => by have := (hown.lt y hy).1; have := gL.out.le; omega)
                have EL3 : Hid ((E ++ [x]).length = j + 1) := by unfold Hid; rw [List.length_append, EL.out]; rfl
                have HL3 : Hid (iterLeft w3 b1 r = iterLeft wn b1 r) := by unfold Hid; rw [IT3.out.left, ITn.out.left]
                have hw3 : wl.heap.size ≤ w3.heap.size := by have := hg3.size; simp at this; omega
                clear own3 hg3 hat3 hown BI
                go_wp2_with fail
                go_roundw
                case rel => exact ⟨_, E ++ [x], A3, j + 1, c3, rfl, IT3, CO2, EL3, OW3, hw3, gE⟩
                case measure => rw [HL3.out]; exact HLFT.out
            · have qf : decide (x.f ≤ mo) = false := decide_eq_false hf
              have CO2 := Lib.hid (coll_out CO.out HQ.out (by unfold opB; rw [qf]; rfl))
              clear hf
              go_upto_region 14 with (fail)
              rw [← hwa]
              clear hwa
              go_wp2_with fail
              go_roundw
              case rel => exact ⟨_, E, Al, j, cl, rfl, Lib.hid (ITn.out.grew ga), CO2, EL, Lib.hid (own_grew OWn.out ga), by have := ga.le; omega, gW.trans ga⟩
              case measure => rw [HLa.out]; exact HLFT.out
end Go.Proofs.Ytjpnodmcglcihaa
