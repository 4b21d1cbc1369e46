/-
  The reference's Entries.
-/
import Derived.Test.YtaocjobbfcfleaaRIns
import Derived.Test.YtaocjobbfcfleaaRSd
namespace WageSet
open WageOrd
def insAll (l : List Ent) : List Ent := l.foldl (fun acc e => insE e acc) []
theorem insAll_snoc (l : List Ent) (e : Ent) : insAll (l ++ [e]) = insE e (insAll l) := by unfold insAll; rw [List.foldl_append]; rfl
theorem insE_len (e : Ent) (l : List Ent) : (insE e l).length = l.length + 1 := by rw [(insE_perm e l).length_eq]; rfl
theorem fold_perm : ∀ (l acc : List Ent), (l.foldl (fun acc e => insE e acc) acc).Perm (l ++ acc)
  | [], acc => List.Perm.refl _
  | e :: l, acc => by
    simp only [List.foldl_cons]
    refine (fold_perm l _).trans ?_
    refine ((insE_perm e acc).append_left l).trans ?_
    exact List.perm_middle
theorem fold_sorted : ∀ (l acc : List Ent), SortedE acc → ((l ++ acc).map (·.id)).Nodup → SortedE (l.foldl (fun acc e => insE e acc) acc)
  | [], acc, h, _ => h
  | e :: l, acc, h, hn => by
    simp only [List.foldl_cons]
    have hp : (e :: l ++ acc).Perm (l ++ insE e acc) := (List.perm_middle.symm).trans ((insE_perm e acc).append_left l).symm
    have hn' := (hp.map (·.id)).nodup_iff.1 hn
    refine fold_sorted l _ (insE_sorted h fun x hx he => ?_) hn'
    rw [List.cons_append, List.map_cons, List.nodup_cons] at hn
    exact hn.1 (he ▸ List.mem_map.2 ⟨x, List.mem_append_right _ hx, rfl⟩)
theorem entL_ins {d : Desk} (h : validB d = true) : entL d = insAll (ents d) := by
  rw [entL_sort h]
  have hn := evs_nodup h
  have hp := fold_perm (ents d) []
  rw [List.append_nil] at hp
  refine sortedE_ext (sortE_sorted hn) (fold_sorted (ents d) [] List.Pairwise.nil (by rw [List.append_nil]; exact hn)) fun x => ?_
  rw [(sortE_perm _).mem_iff]
  exact hp.mem_iff.symm
end WageSet
namespace Go.Proofs.Ytaocjobbfcfleaa
open Go.RowKit Go.Proofs WageMem WageOrd WageRec WageMap WageReg WageSet
theorem size27 : (Try.prog.info? 27).map (·.size) = some 4 := by kernel_rfl
theorem six {w : World} {b : Nat} {v0 v1 v2 v3 v4 v5 : Value} (h : w.heap[b]? = some (.cells #[v0, v1, v2, v3, v4, v5] 50)) : w.cell? ⟨b, 0, none⟩ = some v0 ∧ w.cell? ⟨b, 1, none⟩ = some v1 ∧ w.cell? ⟨b, 2, none⟩ = some v2 ∧ w.cell? ⟨b, 3, none⟩ = some v3 ∧ w.cell? ⟨b, 4, none⟩ = some v4 ∧ w.cell? ⟨b, 5, none⟩ = some v5 := by
  have h' := row_at (l := [v0, v1, v2, v3, v4, v5]) h
  have h0 := h' 0 _ rfl
  have h1 := h' 1 _ rfl
  have h2 := h' 2 _ rfl
  have h3 := h' 3 _ rfl
  have h4 := h' 4 _ rfl
  have h5 := h' 5 _ rfl
  simp only [Nat.zero_add] at h0 h1 h2 h3 h4 h5
  exact ⟨h0, h1, h2, h3, h4, h5⟩
theorem answ_wf {p : Pay} (hp : p.acc.size ≤ maxLen) (x : Ans) : (answE p x).de.size ≤ maxLen ∧ (answE p x).cr.size ≤ maxLen := by
  have h1 : transit.size ≤ maxLen := by decide +kernel
  have h2 : bank.size ≤ maxLen := by decide +kernel
  have h3 : ByteArray.empty.size ≤ maxLen := by decide +kernel
  unfold answE
  split
  · exact ⟨h1, h2⟩
  · split
    · exact ⟨h1, hp⟩
    · split
      · exact ⟨h2, hp⟩
      · exact ⟨h3, h3⟩
theorem wf_ins {e : Ent} {l : List Ent} (he : e.de.size ≤ maxLen ∧ e.cr.size ≤ maxLen) (h : WfE l) : WfE (insE e l) := fun x hx => by
  rcases List.mem_cons.1 ((insE_perm e l).mem_iff.1 hx) with rfl | hx
  · exact he
  · exact h x hx
set_option maxRecDepth 100000 in
set_option maxHeartbeats 32000000 in
theorem rents_any (A B : Option Addr) (n c m e : Nat) (d : Desk) (w : World) (h : DeskIs w A n c B m e d) : Calls Try.prog 20 #[.agg #[.slice A n c, .slice B m e]] w (RetEs (entL d) w) := by
  have HD := Lib.hid h
  have HL := Lib.hid h.1.1.1
  have HLA := Lib.hid h.2.1
  have HWF := Lib.hid h.1.2
  have un := h.1.1.le
  have um := Recs.le h.2
  clear h
  obtain ⟨b1, hb0⟩ : ∃ b, b = w.heap.size := ⟨_, rfl⟩
  obtain ⟨w1, hw0⟩ : ∃ x, x = w.alloc (.cells #[.slice A n c, .slice B m e] 25) := ⟨_, rfl⟩
  have g0 : Grew w w1 := by rw [hw0]; exact (Grew.refl w).alloc _
  have sz0 : w1.heap.size = w.heap.size + 1 := by rw [hw0]; simp
  have HRd : Hid (w1.rangeAt b1 0 [.slice A n c, .slice B m e]) := by
    unfold Hid
    rw [hb0]
    exact range_grew (by rw [hw0]; exact range_new w _ 25) (Grew.refl _)
  have gg : Grew w w1 := g0
  clear sz0 g0
  go_enter Try.func20, Try.ntmps20
  go_upto_region 1 with (fail)
  rw [← hw0]
  rw [← hb0]
  clear hw0 hb0
  replace HD := Lib.hid (HD.out.grew gg)
  obtain ⟨tv, hvv⟩ : ∃ t, validB d = t := ⟨_, rfl⟩
  have HV := Lib.hid hvv
  clear hvv
  obtain ⟨z0_0, z0_1⟩ := d_cells HRd.out
  go_wp2_with fail
  clear z0_0 z0_1
  refine (rvalid_val HD.out HV.out).mono ?_
  rintro r w5 ⟨rfl, g⟩
  replace HRd := Lib.hid (range_grew HRd.out g)
  replace HD := Lib.hid (HD.out.grew g)
  replace gg := gg.trans g
  clear g
  cases tv with
  | false =>
    have HZ : Hid (entL d = []) := by unfold Hid entL; rw [HV.out]; rfl
    go_wp2_with fail
    go_ret
    exact ⟨none, 0, 0, rfl, by rw [HZ.out]; exact ⟨Recs.none_, fun _ h => by simp at h⟩, gg⟩
  | true =>
    have hn4 : n ≤ 400 := by rw [← HL.out]; exact (valid_parts HV.out).1
    have hm4 : m ≤ 2000 := by rw [← HLA.out]; exact (valid_parts HV.out).2.1
    go_wp2_with fail
    go_loopw [3, 4] (fun v i y => ∃ (k : Nat) (Al : Option Addr) (j cl : Nat), k ≤ n ∧ i = .int .i64 k ∧ v = .slice Al j cl ∧ j ≤ k ∧ Hid (Ents y Al j cl (insAll ((d.ss.take k).map fun s => sentE s.p))) ∧ Grew w5 y) (fun _ i _ => n - (intOf i).toNat)
    case atStart => exact ⟨0, none, 0, 0, Nat.zero_le _, rfl, rfl, Nat.le_refl _, ⟨Recs.none_, fun _ h => by simp [insAll] at h⟩, Grew.refl _⟩
    case round =>
      obtain ⟨k, Al, j, cl, hk, rfl, rfl, hjk, HE, hg⟩ := hrel
      have HRd2 := Lib.hid (range_grew HRd.out hg)
      by_cases hlt : k < n
      · obtain ⟨b, o, x, hAx, hx, hr⟩ := (HD.out.1.1.grew hg).at_ se_ok hlt
        have HX := Lib.hid hx
        have hpp := pay_parts (valid_sta HV.out (List.mem_of_getElem? hx)).1
        have hac := HWF.out x (List.mem_of_getElem? hx)
        have k0 : (0 : Int) ≤ (k : Int) := by omega
        have k1 : (k : Int) < (n : Int) := by omega
        subst hAx
        obtain ⟨r0, r1⟩ := d_cells HRd2.out
        obtain ⟨p0, p1, p2, p3⟩ := p_cells (s_pay hr)
        obtain ⟨wa, hwa⟩ : ∃ y, y = wr.alloc (.cells #[.int .i64 x.p.id, .string x.p.acc, .int .i64 x.p.c, .int .i64 x.p.d] 27) := ⟨_, rfl⟩
        have ga : Grew wr wa := by rw [hwa]; exact (Grew.refl wr).alloc _
        obtain ⟨bx, hbx⟩ : ∃ b, b = wr.heap.size := ⟨_, rfl⟩
        have HRX : Hid (wa.rangeAt bx 0 (pe x.p)) := by unfold Hid; rw [hwa, hbx]; exact range_new wr (pe x.p) 27
        have gA := hg.trans ga
        have HEa := Lib.hid (HE.out.grew ga)
        have HN : Hid (insAll ((d.ss.take (k + 1)).map fun s => sentE s.p) = insE (sentE x.p) (insAll ((d.ss.take k).map fun s => sentE s.p))) := by unfold Hid; rw [List.take_add_one, HX.out, List.map_append]; exact insAll_snoc _ _
        have hw1 : IntKind.i64.wrap (2 * x.p.id) = 2 * x.p.id := IntWalk.i64_in _ (by omega)
        clear hr hx HE
        go_upto_region 8 with (fail)
        rw [← hwa, ← hbx]
        clear hwa hbx r0 r1 p0 p1 p2 p3 hg ga
        obtain ⟨p0, p1, p2, p3⟩ := p_cells0 HRX.out
        go_wp2_with fail
        clear p0 p1 p2 p3
        refine (insert_any Al j cl _ (sentE x.p) _ HEa.out (by omega)).mono ?_
        rintro r w8 ⟨A8, j8, c8, rfl, hl8, own8, g8⟩
        have hj8 : j8 = j + 1 := by rw [← hl8, insE_len, HEa.out.1.1]
        have HE8 : Hid (Ents w8 A8 j8 c8 (insAll ((d.ss.take (k + 1)).map fun s => sentE s.p))) := by
          unfold Hid
          rw [HN.out]
          exact ⟨Recs.own hl8 own8, wf_ins ⟨hac, (by show transit.size ≤ maxLen; decide +kernel)⟩ HEa.out.2⟩
        have gE := gA.trans g8
        subst hj8
        clear own8 g8 hl8 HEa HRX
        go_wp2_with fail
        go_roundw
        case rel => exact ⟨k + 1, A8, j + 1, c8, by omega, by go_num, rfl, by omega, HE8, gE⟩
        case measure => simp [intOf]; omega
      · obtain rfl : n = k := by omega
        obtain ⟨S, hS⟩ : ∃ S, ((d.ss.take n).map fun s => sentE s.p) = S := ⟨_, rfl⟩
        have HSS : Hid ((paysOf d).map sentE = S) := by unfold Hid paysOf; rw [← hS, ← HL.out, List.take_length, List.map_map]; rfl
        rw [hS] at HE
        clear hS
        have HD2 := Lib.hid (HD.out.grew hg)
        have G2 := Lib.hid (gg.trans hg)
        obtain ⟨wt, hwt⟩ : ∃ y, y = wr := ⟨_, rfl⟩
        rw [← hwt] at HRd2 HD2 G2 HE ⊢
        clear hwt hg HRd HD gg
        obtain ⟨r0, r1⟩ := d_cells HRd2.out
        go_wp2_with fail
        clear r0 r1
        go_loopw [3, 6] (fun v i y => ∃ (k : Nat) (Al : Option Addr) (j cl : Nat), k ≤ m ∧ i = .int .i64 k ∧ v = .slice Al j cl ∧ j ≤ n + k ∧ Hid (Ents y Al j cl (insAll (S ++ ((d.an.take k).filter movesB).map fun a => answE (payP (paysOf d) a.id) a))) ∧ Grew wt y) (fun _ i _ => m - (intOf i).toNat)
        case atStart => exact ⟨0, Al, j, cl, Nat.zero_le _, rfl, rfl, by omega, by unfold Hid; rw [List.take_zero, List.filter_nil, List.map_nil, List.append_nil]; exact HE.out, Grew.refl _⟩
        case round =>
          clear HE hjk
          obtain ⟨k, Al, j, cl, hk, rfl, rfl, hjk, HE, hg⟩ := hrel
          have HRd3 := Lib.hid (range_grew HRd2.out hg)
          by_cases hlt : k < m
          · obtain ⟨b, o, x, hAx, hx, hr⟩ := (Recs.grew HD2.out.2 hg).at_ ae_ok hlt
            have HX := Lib.hid hx
            have hxm := List.mem_of_getElem? hx
            have hab := ((stand_mem (valid_parts HV.out).2.2.1).2.1 x hxm).1
            have hap := ans_parts hab
            have hkk := ans_k hab
            obtain ⟨p, hp, _⟩ := ans_find HV.out hxm
            have hyes := find_yes (any_hasId d x.id ▸ (List.any_eq_true.2 ⟨p, List.mem_of_find?_eq_some hp, by have := List.find?_some hp; exact this⟩))
            obtain ⟨z, hz, s, hs, hsid⟩ := hyes
            have hps : payP (paysOf d) x.id = s.p := by
              have h5 := (stand_parts (valid_parts HV.out).2.2.1).1
              have := findP_at h5 (j := z) (p := s.p) (a := x.id) (by unfold paysOf; rw [List.getElem?_map, hs]; rfl) hsid
              unfold payP; rw [this]; rfl
            have hsz : z < n := by rw [← HL.out]; exact (List.getElem?_eq_some_iff.1 hs).1
            have hac := HWF.out s (List.mem_of_getElem? hs)
            have HZ := Lib.hid hz
            have HS := Lib.hid hs
            have HPS := Lib.hid hps
            have HN : Hid (movesB x = true → insAll (S ++ ((d.an.take (k + 1)).filter movesB).map fun a => answE (payP (paysOf d) a.id) a) = insE (answE s.p x) (insAll (S ++ ((d.an.take k).filter movesB).map fun a => answE (payP (paysOf d) a.id) a))) := fun hmv => by
              rw [List.take_add_one, HX.out, List.filter_append, List.map_append, ← List.append_assoc]
              have : ([x].filter movesB).map (fun a => answE (payP (paysOf d) a.id) a) = [answE s.p x] := by rw [List.filter_cons, hmv]; simp [HPS.out]
              rw [Option.toList_some, this]
              exact insAll_snoc _ _
            have HN1 : Hid (movesB x = false → insAll (S ++ ((d.an.take (k + 1)).filter movesB).map fun a => answE (payP (paysOf d) a.id) a) = insAll (S ++ ((d.an.take k).filter movesB).map fun a => answE (payP (paysOf d) a.id) a)) := fun hmv => by
              rw [List.take_add_one, HX.out, List.filter_append]
              have : [x].filter movesB = [] := by rw [List.filter_cons, hmv]; rfl
              rw [Option.toList_some, this, List.append_nil]
            have k0 : (0 : Int) ≤ (k : Int) := by omega
            have k1 : (k : Int) < (m : Int) := by omega
            obtain ⟨r0, r1⟩ := d_cells HRd3.out
            obtain ⟨c0, c1, c2, c3, c4⟩ := a_cells hr
            obtain ⟨wa, hwa⟩ : ∃ y, y = wr.alloc (.cells #[.int .i64 x.q, .int .i64 x.id, .int .i64 x.k, .int .i64 x.c, .int .i64 x.d] 29) := ⟨_, rfl⟩
            have ga : Grew wr wa := by rw [hwa]; exact (Grew.refl wr).alloc _
            obtain ⟨bx, hbx⟩ : ∃ b, b = wr.heap.size := ⟨_, rfl⟩
            have HRX : Hid (wa.rangeAt bx 0 (ae x)) := by unfold Hid; rw [hwa, hbx]; exact range_new wr (ae x) 29
            have gA := hg.trans ga
            have HEa := Lib.hid (HE.out.grew ga)
            have HRda := Lib.hid (range_grew HRd3.out ga)
            have HDa := Lib.hid (HD2.out.grew gA)
            subst hAx
            clear hr hx HE hz hs hps hp hab hxm hsid
            go_upto_region 13 with (fail)
            rw [← hwa, ← hbx]
            clear hwa hbx r0 r1 c0 c1 c2 c3 c4 hg ga HRd3
            obtain ⟨b', o', s', hAs, hs', hrs⟩ := (HDa.out.1.1.grew (Grew.refl wa).drew).at_ se_ok hsz
            have hss : s' = s := by rw [HS.out] at hs'; exact (Option.some.inj hs').symm
            subst hss
            have z0 : (0 : Int) ≤ (z : Int) := by omega
            have z1 : (z : Int) < (n : Int) := by omega
            have HRdd := Lib.hid (range_grew HRda.out (Grew.refl wa).drew)
            have HRXd := Lib.hid (range_grew HRX.out (Grew.refl wa).drew)
            have HDd := Lib.hid (HDa.out.grew (Grew.refl wa).drew)
            subst hAs
            have hC : ∀ w', Grew wa.drew w' → (w'.cell? ⟨b1, 0, none⟩ = some (.slice (some ⟨b', o', none⟩) n c) ∧ w'.cell? ⟨b1, 1, none⟩ = some (.slice (some ⟨b, o, none⟩) m e)) ∧ (w'.cell? ⟨bx, 0, none⟩ = some (.int .i64 x.q) ∧ w'.cell? ⟨bx, 1, none⟩ = some (.int .i64 x.id) ∧ w'.cell? ⟨bx, 2, none⟩ = some (.int .i64 x.k) ∧ w'.cell? ⟨bx, 3, none⟩ = some (.int .i64 x.c) ∧ w'.cell? ⟨bx, 4, none⟩ = some (.int .i64 x.d)) ∧ (w'.cell? ⟨b', o' + z * 7, none⟩ = some (.int .i64 s'.p.id) ∧ w'.cell? ⟨b', o' + z * 7 + 1, none⟩ = some (.string s'.p.acc) ∧ w'.cell? ⟨b', o' + z * 7 + 2, none⟩ = some (.int .i64 s'.p.c) ∧ w'.cell? ⟨b', o' + z * 7 + 3, none⟩ = some (.int .i64 s'.p.d)) := fun w' g' => ⟨d_cells (range_grew HRdd.out g'), a_cells0 (range_grew HRXd.out g'), p_cells (s_pay (range_grew hrs g'))⟩
            clear hs'
            refine wp_region_G (G := Grew) (by kernel_rfl) Grew.refl 10 ?_
            refine wpAnyG_takes Grew.refl (fun _ _ _ => Grew.trans) (fun _ _ _ _ _ h => h) [0, 1, 2, 3, 4, 5, 6, 7, 8] (fuel' := 2) (by kernel_rfl) (by kernel_rfl) (by simp only [pickOps, List.getElem?_toArray, List.getElem?_cons_zero, List.getElem?_cons_succ]; rfl) ?_
            repeat (first
              | (refine TakeAll.pure (v := ?_) (by rfl) ?_ ?_; rotate_left; (intro w' g'; obtain ⟨⟨r0, r1⟩, ⟨c0, c1, c2, c3, c4⟩, p0, p1, p2, p3⟩ := hC w' g'; go_simp; first | done | with_reducible rfl); (simp only [Act.put, List.setIfInBounds_toArray, List.set_cons_zero, List.set_cons_succ]))
              | (refine TakeAll.skip (by rfl) ?_; (simp only [Act.put, List.setIfInBounds_toArray, List.set_cons_zero, List.set_cons_succ])))
            refine TakeAll.call (by rfl) 34 _ (fun _ => by go_simp; first | done | rfl) (fun w' g' => rfind_val (HDd.out.grew g') HZ.out) ?_
            simp only [Act.put, List.setIfInBounds_toArray, List.set_cons_zero, List.set_cons_succ]
            repeat (first
              | (refine TakeAll.pure (v := ?_) (by rfl) ?_ ?_; rotate_left; (intro w' g'; obtain ⟨⟨r0, r1⟩, ⟨c0, c1, c2, c3, c4⟩, p0, p1, p2, p3⟩ := hC w' g'; go_simp; first | done | with_reducible rfl); (simp only [Act.put, List.setIfInBounds_toArray, List.set_cons_zero, List.set_cons_succ]))
              | (refine TakeAll.skip (by rfl) ?_; (simp only [Act.put, List.setIfInBounds_toArray, List.set_cons_zero, List.set_cons_succ])))
            refine TakeAll.nil ?_
            refine wpAnyG_step (i := 9) (by kernel_rfl) (fuel' := 1) (by kernel_rfl) (by simp only [pickOps, List.getElem?_toArray, List.getElem?_cons_zero, List.getElem?_cons_succ]; rfl) rfl ?_
            intro w6 g6 K hK
            go_simp
            have g7 := (Grew.refl w6).alloc (.cells #[.int .i64 0, .string { data := #[] }, .int .i64 0, .int .i64 0] 27)
            refine hK _ _ g7 ?_
            clear hK K
            have HB8 : Hid ((w6.alloc (.cells #[.int .i64 0, .string { data := #[] }, .int .i64 0, .int .i64 0] 27)).heap[w6.heap.size]? = some (.cells #[.int .i64 0, .string { data := #[] }, .int .i64 0, .int .i64 0] 27)) := heap_alloc_new w6 _
            have hle6 := g6.le
            have g67 : Grew wa.drew (w6.alloc (.cells #[.int .i64 0, .string { data := #[] }, .int .i64 0, .int .i64 0] 27)) := g6.trans g7
            obtain ⟨w7, hw7⟩ : ∃ y, y = w6.alloc (.cells #[.int .i64 0, .string { data := #[] }, .int .i64 0, .int .i64 0] 27) := ⟨_, rfl⟩
            obtain ⟨b8, hb8⟩ : ∃ y, y = w6.heap.size := ⟨_, rfl⟩
            rw [← hw7] at HB8 g67 ⊢
            rw [← hb8] at HB8 hle6 ⊢
            clear hw7 hb8 g7 g6
            refine wpAnyG_end (by kernel_rfl) (fuel' := 0) (by kernel_rfl) (by simp only [pickOps, List.getElem?_toArray, List.getElem?_cons_zero, List.getElem?_cons_succ]; rfl) rfl ?_
            intro w8 g8 K hK
            have HB8b := g8.block HB8
            refine wp_store_row 27 (.tmp 8) (.tmp 60) rfl b8 #[.int .i64 s'.p.id, .string s'.p.acc, .int .i64 s'.p.c, .int .i64 s'.p.d] rfl rfl 27 _ HB8b size27 rfl (by simp [Value.oneCell']) ?_
            have g9 := grew_setRow (g67.trans g8) hle6 #[.int .i64 s'.p.id, .string s'.p.acc, .int .i64 s'.p.c, .int .i64 s'.p.d]
            have HB9 := setRow_heap w8 b8 _ #[.int .i64 s'.p.id, .string s'.p.acc, .int .i64 s'.p.c, .int .i64 s'.p.d] 27 (0, 0) HB8b
            refine hK _ _ ?_
            clear hK K
            refine wpAny_rest (fun _ _ _ _ _ h => h) [] (by kernel_rfl) (by kernel_rfl) (by kernel_rfl) rfl ?_
            refine TakeAll.nil ?_
            have HRP : Hid ((w8.setRow b8 #[.int .i64 s'.p.id, .string s'.p.acc, .int .i64 s'.p.c, .int .i64 s'.p.d]).rangeAt b8 0 (pe s'.p)) := row_at (l := pe s'.p) HB9
            obtain ⟨wb, hwb⟩ : ∃ y, y = w8.setRow b8 #[.int .i64 s'.p.id, .string s'.p.acc, .int .i64 s'.p.c, .int .i64 s'.p.d] := ⟨_, rfl⟩
            rw [← hwb] at HRP g9 ⊢
            clear hwb HB9 HB8b HB8 g8 g67 hC HRdd HRXd HDd
            have gB := (Grew.refl wa).drew.trans g9
            have HRX2 := Lib.hid (range_grew HRX.out gB)
            have HEb := Lib.hid (HEa.out.grew gB)
            have gAB := gA.trans gB
            clear HRX HEa HRda HDa gA gB g9 hrs
            have hw1 : IntKind.i64.wrap (2 * x.q) = 2 * x.q := IntWalk.i64_in _ (by omega)
            have hw2 : IntKind.i64.wrap (2 * x.q + 1) = 2 * x.q + 1 := IntWalk.i64_in _ (by omega)
            obtain ⟨wc, hwc⟩ : ∃ y, y = wb.alloc (.cells #[.int .i64 (2 * x.q + 1), .string { data := #[105, 110, 95, 116, 114, 97, 110, 115, 105, 116] }, .string { data := #[97, 116, 95, 98, 97, 110, 107] }, .int .i64 x.c, .int .i64 x.d, .int .i64 x.d] 50) := ⟨_, rfl⟩
            have gc : Grew wb wc := by rw [hwc]; exact (Grew.refl _).alloc _
            obtain ⟨bE, hbE⟩ : ∃ z, z = wb.heap.size := ⟨_, rfl⟩
            have HBE : Hid (wc.heap[bE]? = some (.cells #[.int .i64 (2 * x.q + 1), .string { data := #[105, 110, 95, 116, 114, 97, 110, 115, 105, 116] }, .string { data := #[97, 116, 95, 98, 97, 110, 107] }, .int .i64 x.c, .int .i64 x.d, .int .i64 x.d] 50)) := by unfold Hid; rw [hwc, hbE]; exact heap_alloc_new _ _
            have hbw : wb.heap.size ≤ bE := by omega
            have HRXc := Lib.hid (range_grew HRX2.out gc)
            have HRPc := Lib.hid (range_grew HRP.out gc)
            have HEc := Lib.hid (HEb.out.grew gc)
            have hnX : bx ≠ bE := by
              intro e
              have h1 := HRX2.out 0 _ rfl
              obtain ⟨o1, h2, _⟩ := cells_of_cell h1
              have := (Array.getElem?_eq_some_iff.1 h2).1
              simp only at this
              omega
            have hnP : b8 ≠ bE := by
              intro e
              have h1 := HRP.out 0 _ rfl
              obtain ⟨o1, h2, _⟩ := cells_of_cell h1
              have := (Array.getElem?_eq_some_iff.1 h2).1
              simp only at this
              omega
            obtain ⟨c0, c1, c2, c3, c4⟩ := a_cells0 HRX2.out
            go_upto_region 15 with (fail)
            rw [← hwc, ← hbE]
            clear hwc hbE c0 c1 c2 c3 c4
            rcases hkk with hk1 | hk2 | hk3 | hk4
            · have q1 : (x.k == 1) = true := by rw [hk1]; rfl
              have hmv : movesB x = false := by unfold movesB; rw [hk1]; rfl
              have HNN := Lib.hid (HN1.out hmv)
              obtain ⟨c0, c1, c2, c3, c4⟩ := a_cells0 HRXc.out
              have gE := gAB.trans gc
              clear hk1
              go_wp2_with fail
              go_roundw
              case rel => exact ⟨k + 1, Al, j, cl, by omega, by go_num, rfl, by omega, by unfold Hid; rw [HNN.out]; exact HEc.out, gE⟩
              case measure => simp [intOf]; omega
            · have q1 : (x.k == 1) = false := by rw [hk2]; rfl
              have q3 : (x.k == 3) = false := by rw [hk2]; rfl
              have q4 : (x.k == 4) = false := by rw [hk2]; rfl
              have hmv : movesB x = true := by unfold movesB; rw [hk2]; rfl
              have HFE : Hid (wc.rangeAt bE 0 (ne (answE s'.p x))) := by unfold Hid; rw [show answE s'.p x = ⟨2 * x.q + 1, transit, bank, x.c, x.d, x.d⟩ by unfold answE; rw [if_pos hk2]]; exact row_at (l := ne ⟨2 * x.q + 1, transit, bank, x.c, x.d, x.d⟩) HBE.out
              have HEw := Lib.hid (HEb.out.grew gc)
              have HNN := Lib.hid (HN.out hmv)
              have gW := gAB.trans gc
              have HXW := Lib.hid (range_grew HRX2.out gc)
              clear HRXc HRPc HEc HBE HEb HRP HRX2 HN HN1
              clear hk2 hmv
              obtain ⟨c0, c1, c2, c3, c4⟩ := a_cells0 HXW.out
              go_upto_region 23 with (fail)
              clear c0 c1 c2 c3 c4
              obtain ⟨e0, e1, e2, e3, e4, e5⟩ := n_cells0 HFE.out
              go_wp2_with fail
              clear e0 e1 e2 e3 e4 e5
              refine (insert_any Al j cl _ (answE s'.p x) _ HEw.out (by omega)).mono ?_
              rintro r w9 ⟨A9, j9, c9, rfl, hl9, own9, g9⟩
              have hj9 : j9 = j + 1 := by rw [← hl9, insE_len, HEw.out.1.1]
              subst hj9
              have HE9 : Hid (Ents w9 A9 (j + 1) c9 (insAll (S ++ ((d.an.take (k + 1)).filter movesB).map fun a => answE (payP (paysOf d) a.id) a))) := by
                unfold Hid
                rw [HNN.out]
                exact ⟨Recs.own hl9 own9, wf_ins (answ_wf hac x) HEw.out.2⟩
              have gE := gW.trans g9
              clear own9 g9 hl9 HEw HFE
              go_wp2_with fail
              go_roundw
              case rel => exact ⟨k + 1, A9, j + 1, c9, by omega, by go_num, rfl, by omega, HE9, gE⟩
              case measure => simp [intOf]; omega
            · skip
              have q1 : (x.k == 1) = false := by rw [hk3]; rfl
              have q3 : (x.k == 3) = true := by rw [hk3]; rfl
              have hmv : movesB x = true := by unfold movesB; rw [hk3]; rfl
              have HBa : Hid ((wc.setCell ⟨bE, 2, none⟩ (.string s'.p.acc)).heap[bE]? = some (.cells #[.int .i64 (2 * x.q + 1), .string { data := #[105, 110, 95, 116, 114, 97, 110, 115, 105, 116] }, .string s'.p.acc, .int .i64 x.c, .int .i64 x.d, .int .i64 x.d] 50)) := Go.heap_setCell_same wc bE 2 _ 50 _ HBE.out
              have HBb : Hid (((wc.setCell ⟨bE, 2, none⟩ (.string s'.p.acc)).setCell ⟨bE, 3, none⟩ (.int .i64 s'.p.c)).heap[bE]? = some (.cells #[.int .i64 (2 * x.q + 1), .string { data := #[105, 110, 95, 116, 114, 97, 110, 115, 105, 116] }, .string s'.p.acc, .int .i64 s'.p.c, .int .i64 x.d, .int .i64 x.d] 50)) := Go.heap_setCell_same _ bE 3 _ 50 _ HBa.out
              have g2 : Grew wb ((wc.setCell ⟨bE, 2, none⟩ (.string s'.p.acc)).setCell ⟨bE, 3, none⟩ (.int .i64 s'.p.c)) := (gc.set (p := ⟨bE, 2, none⟩) hbw _).set (p := ⟨bE, 3, none⟩) hbw _
              obtain ⟨c0, c1, c2, c3, c4⟩ := a_cells0 HRXc.out
              obtain ⟨p0, p1, p2, p3⟩ := p_cells0 HRPc.out
              obtain ⟨e0, e1, e2, e3, e4, e5⟩ := six HBE.out
              have f0 := row_free HBE.out
              have f0a := row_free HBa.out
              have pa := p_cells0 (range_far HRPc.out (set_grown wc bE 2 (.string s'.p.acc)) (fun e => hnP (by injection e)))
              obtain ⟨pa0, pa1, pa2, pa3⟩ := pa
              have HANS := Lib.hid (show answE s'.p x = ⟨2 * x.q + 1, transit, s'.p.acc, s'.p.c, x.d, x.d⟩ by unfold answE; rw [if_neg (by omega), if_pos hk3])
              clear hk3
              go_upto_region 23 with (fail)
              clear c0 c1 c2 c3 c4 p0 p1 p2 p3 e0 e1 e2 e3 e4 e5 f0 f0a pa0 pa1 pa2 pa3
              obtain ⟨wz, hwz⟩ : ∃ y, y = (wc.setCell ⟨bE, 2, none⟩ (.string s'.p.acc)).setCell ⟨bE, 3, none⟩ (.int .i64 s'.p.c) := ⟨_, rfl⟩
              rw [← hwz] at HBb g2 ⊢
              clear hwz HBa
              have HFE : Hid (wz.rangeAt bE 0 (ne (answE s'.p x))) := by unfold Hid; rw [show answE s'.p x = ⟨2 * x.q + 1, transit, s'.p.acc, s'.p.c, x.d, x.d⟩ by exact HANS.out]; exact row_at (l := ne ⟨2 * x.q + 1, transit, s'.p.acc, s'.p.c, x.d, x.d⟩) HBb.out
              have HEw := Lib.hid (HEb.out.grew g2)
              have HNN := Lib.hid (HN.out hmv)
              have gW := gAB.trans g2
              have HXW := Lib.hid (range_grew HRX2.out g2)
              clear HRXc HRPc HEc HBE HEb HRP HRX2 HN HN1
              clear HBb hmv
              obtain ⟨e0, e1, e2, e3, e4, e5⟩ := n_cells0 HFE.out
              go_wp2_with fail
              clear e0 e1 e2 e3 e4 e5
              refine (insert_any Al j cl _ (answE s'.p x) _ HEw.out (by omega)).mono ?_
              rintro r w9 ⟨A9, j9, c9, rfl, hl9, own9, g9⟩
              have hj9 : j9 = j + 1 := by rw [← hl9, insE_len, HEw.out.1.1]
              subst hj9
              have HE9 : Hid (Ents w9 A9 (j + 1) c9 (insAll (S ++ ((d.an.take (k + 1)).filter movesB).map fun a => answE (payP (paysOf d) a.id) a))) := by
                unfold Hid
                rw [HNN.out]
                exact ⟨Recs.own hl9 own9, wf_ins (answ_wf hac x) HEw.out.2⟩
              have gE := gW.trans g9
              clear own9 g9 hl9 HEw HFE
              go_wp2_with fail
              go_roundw
              case rel => exact ⟨k + 1, A9, j + 1, c9, by omega, by go_num, rfl, by omega, HE9, gE⟩
              case measure => simp [intOf]; omega
            · skip
              have q1 : (x.k == 1) = false := by rw [hk4]; rfl
              have q3 : (x.k == 3) = false := by rw [hk4]; rfl
              have q4 : (x.k == 4) = true := by rw [hk4]; rfl
              have hmv : movesB x = true := by unfold movesB; rw [hk4]; rfl
              have HBa : Hid ((wc.setCell ⟨bE, 1, none⟩ (.string { data := #[97, 116, 95, 98, 97, 110, 107] })).heap[bE]? = some (.cells #[.int .i64 (2 * x.q + 1), .string { data := #[97, 116, 95, 98, 97, 110, 107] }, .string { data := #[97, 116, 95, 98, 97, 110, 107] }, .int .i64 x.c, .int .i64 x.d, .int .i64 x.d] 50)) := Go.heap_setCell_same wc bE 1 _ 50 _ HBE.out
              have HBb : Hid (((wc.setCell ⟨bE, 1, none⟩ (.string { data := #[97, 116, 95, 98, 97, 110, 107] })).setCell ⟨bE, 2, none⟩ (.string s'.p.acc)).heap[bE]? = some (.cells #[.int .i64 (2 * x.q + 1), .string { data := #[97, 116, 95, 98, 97, 110, 107] }, .string s'.p.acc, .int .i64 x.c, .int .i64 x.d, .int .i64 x.d] 50)) := Go.heap_setCell_same _ bE 2 _ 50 _ HBa.out
              have g2 : Grew wb ((wc.setCell ⟨bE, 1, none⟩ (.string { data := #[97, 116, 95, 98, 97, 110, 107] })).setCell ⟨bE, 2, none⟩ (.string s'.p.acc)) := (gc.set (p := ⟨bE, 1, none⟩) hbw _).set (p := ⟨bE, 2, none⟩) hbw _
              obtain ⟨c0, c1, c2, c3, c4⟩ := a_cells0 HRXc.out
              obtain ⟨p0, p1, p2, p3⟩ := p_cells0 HRPc.out
              obtain ⟨e0, e1, e2, e3, e4, e5⟩ := six HBE.out
              have f0 := row_free HBE.out
              have f0a := row_free HBa.out
              have pa := p_cells0 (range_far HRPc.out (set_grown wc bE 1 (.string { data := #[97, 116, 95, 98, 97, 110, 107] })) (fun e => hnP (by injection e)))
              obtain ⟨pa0, pa1, pa2, pa3⟩ := pa
              have HANS := Lib.hid (show answE s'.p x = ⟨2 * x.q + 1, bank, s'.p.acc, x.c, x.d, x.d⟩ by unfold answE; rw [if_neg (by omega), if_neg (by omega), if_pos hk4])
              clear hk4
              go_upto_region 23 with (fail)
              clear c0 c1 c2 c3 c4 p0 p1 p2 p3 e0 e1 e2 e3 e4 e5 f0 f0a pa0 pa1 pa2 pa3
              obtain ⟨wz, hwz⟩ : ∃ y, y = (wc.setCell ⟨bE, 1, none⟩ (.string { data := #[97, 116, 95, 98, 97, 110, 107] })).setCell ⟨bE, 2, none⟩ (.string s'.p.acc) := ⟨_, rfl⟩
              rw [← hwz] at HBb g2 ⊢
              clear hwz HBa
              have HFE : Hid (wz.rangeAt bE 0 (ne (answE s'.p x))) := by unfold Hid; rw [show answE s'.p x = ⟨2 * x.q + 1, bank, s'.p.acc, x.c, x.d, x.d⟩ by exact HANS.out]; exact row_at (l := ne ⟨2 * x.q + 1, bank, s'.p.acc, x.c, x.d, x.d⟩) HBb.out
              have HEw := Lib.hid (HEb.out.grew g2)
              have HNN := Lib.hid (HN.out hmv)
              have gW := gAB.trans g2
              have HXW := Lib.hid (range_grew HRX2.out g2)
              clear HRXc HRPc HEc HBE HEb HRP HRX2 HN HN1
              clear HBb hmv
              obtain ⟨e0, e1, e2, e3, e4, e5⟩ := n_cells0 HFE.out
              go_wp2_with fail
              clear e0 e1 e2 e3 e4 e5
              refine (insert_any Al j cl _ (answE s'.p x) _ HEw.out (by omega)).mono ?_
              rintro r w9 ⟨A9, j9, c9, rfl, hl9, own9, g9⟩
              have hj9 : j9 = j + 1 := by rw [← hl9, insE_len, HEw.out.1.1]
              subst hj9
              have HE9 : Hid (Ents w9 A9 (j + 1) c9 (insAll (S ++ ((d.an.take (k + 1)).filter movesB).map fun a => answE (payP (paysOf d) a.id) a))) := by
                unfold Hid
                rw [HNN.out]
                exact ⟨Recs.own hl9 own9, wf_ins (answ_wf hac x) HEw.out.2⟩
              have gE := gW.trans g9
              clear own9 g9 hl9 HEw HFE
              go_wp2_with fail
              go_roundw
              case rel => exact ⟨k + 1, A9, j + 1, c9, by omega, by go_num, rfl, by omega, HE9, gE⟩
              case measure => simp [intOf]; omega
          · have HFIN : Hid (insAll (S ++ ((d.an.take k).filter movesB).map fun a => answE (payP (paysOf d) a.id) a) = entL d) := by
              unfold Hid
              rw [List.take_of_length_le (by rw [HLA.out]; omega), entL_ins HV.out, ents_form, HSS.out]
            obtain ⟨r0, r1⟩ := d_cells HRd3.out
            have gE := G2.out.trans hg
            go_wp2_with fail
            go_ret
            exact ⟨Al, j, cl, rfl, by rw [← HFIN.out]; exact HE.out, gE⟩
end Go.Proofs.Ytaocjobbfcfleaa
