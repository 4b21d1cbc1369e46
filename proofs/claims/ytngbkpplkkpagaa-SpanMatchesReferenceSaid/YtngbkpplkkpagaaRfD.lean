/-
  The reference's functions on spans: Normal.
-/
import Derived.Test.YtngbkpplkkpagaaRfC
namespace Go.Proofs.Ytngbkpplkkpagaa
open Go.RowKit Go.Proofs WageMem WageSpan

/-- A store into a cell of a row that the call owns. -/
theorem own_put {w : World} {base : Nat} {e : TypeId} {size g n c j : Nat} {xs : List Value} {u : Value} (h : w.ownsRow base e size (.slice (some ⟨g, 0, none⟩) n c) n xs) :
    (w.setCell ⟨g, j, none⟩ u).ownsRow base e size (.slice (some ⟨g, 0, none⟩) n c) n (xs.set j u) := by
  obtain ⟨hl, h2⟩ := h
  refine ⟨by rw [List.length_set, hl], .inr ?_⟩
  rcases h2 with ⟨hv, hn⟩ | ⟨g', cap, cur, hv, hb, hg, hnc, hcm, hcs, ht⟩
  · cases hv
  · injection hv with e1 e2 e3
    injection e1 with e1
    injection e1 with e1
    subst e1 e3
    refine ⟨g, c, cur.setIfInBounds j u, rfl, hb, heap_setCell_same w g j _ e u hg, hnc, hcm, by rw [Array.size_setIfInBounds, hcs], ?_⟩
    rw [Array.toList_setIfInBounds, ← ht, List.take_set]
theorem flat_last {r : List Sp} {t1 t2 v : Int} : (flat (r ++ [(t1, t2)])).set (r.length * 2 + 1) (.int .i64 v) = flat (r ++ [(t1, v)]) := by
  rw [flat_append, flat_append, List.set_append, if_neg (by rw [flat_len]; omega), flat_len, Nat.add_sub_cancel_left]; rfl
theorem rfold_snoc {l : List Sp} {k : Nat} {s : Sp} (h : l[k]? = some s) : rnormR (l.take (k + 1)) = rstep (rnormR (l.take k)) s := by
  unfold rnormR; rw [List.take_add_one, h, List.foldl_append]; rfl
theorem rstep_len (out : List Sp) (s : Sp) : (rstep out s).length ≤ out.length + 1 := by
  unfold rstep
  split
  · split
    · simp
    · split <;> simp
  · omega
theorem rnormR_len (l : List Sp) : (rnormR l).length ≤ l.length := by
  suffices h : ∀ (l out : List Sp), (l.foldl rstep out).length ≤ out.length + l.length by have := h l []; simpa [rnormR] using this
  intro l
  induction l with
  | nil => intro out; simp
  | cons s l ih => intro out; have := ih (rstep out s); have := rstep_len out s; simp only [List.foldl_cons, List.length_cons]; omega
theorem rstep_nil {s : Sp} (hp : properB s = true) : rstep [] s = [s] := by unfold rstep; rw [hp]; rfl
theorem rstep_join {s t : Sp} {r : List Sp} (hp : properB s = true) (h : s.1 ≤ t.2) : rstep (t :: r) s = (t.1, max t.2 s.2) :: r := by
  unfold rstep; rw [hp, if_pos rfl]; simp only; rw [if_pos h]
theorem rstep_new {s t : Sp} {r : List Sp} (hp : properB s = true) (h : ¬ s.1 ≤ t.2) : rstep (t :: r) s = s :: t :: r := by
  unfold rstep; rw [hp, if_pos rfl]; simp only; rw [if_neg h]
structure NmInv (w : World) (R : List Sp) (Al : Option Addr) (j cl : Nat) (W : World) : Prop where
  own : W.ownsRow w.heap.size 33 2 (.slice Al j cl) j (flat R)
  len : R.length = j
  in64 : In64 R
  grew : Grew w W

set_option maxRecDepth 100000 in
set_option maxHeartbeats 4000000 in
theorem rnormal_any (A : Option Addr) (n c : Nat) (a : List Sp) (w : World) (ha : Spans w A n c a) (hn : n ≤ 2000) :
    Calls Try.prog 16 #[.slice A n c] w (RetS (rnorm a) w) := by
  obtain ⟨i0, hi, hz0, hz1, hz2⟩ := info_parts info33
  obtain ⟨sr, hsr⟩ : ∃ l, rsorted a = l := ⟨_, rfl⟩
  have HFIN : Hid (rnorm a = (rnormR sr).reverse) := by unfold Hid rnorm; rw [hsr]
  have HSR := Lib.hid hsr
  have LSR : Hid (sr.length = n) := by unfold Hid; rw [← hsr, rsorted_len, ha.1]
  have HA := Lib.hid ha
  clear hsr ha
  go_enter Try.func16, Try.ntmps16
  go_wp2_with fail
  refine (sorted_val HA.out hn HSR.out).mono ?_
  rintro e w1 ⟨As, ns, cs, rfl, hS, g1⟩
  obtain rfl : ns = n := by rw [← hS.1]; exact LSR.out
  have HS := Lib.hid hS
  clear hS HA
  go_wp2_with fail
  go_loopw [3, 5] (fun v x wr => ∃ (i j : Nat) (Al : Option Addr) (cl : Nat), i ≤ ns ∧ j ≤ i ∧ x = .int .i64 i ∧ v = .slice Al j cl ∧ Hid (NmInv w1 (rnormR (sr.take i)).reverse Al j cl wr)) (fun _ x _ => ns - (intOf x).toNat)
  case atStart => exact ⟨0, 0, none, 0, by omega, by omega, rfl, rfl, ⟨World.ownsRow_nil _ _ _ _, rfl, fun s hs => by simp [rnormR] at hs, Grew.refl _⟩⟩
  case round =>
    obtain ⟨i, j, Al, cl, hin, hji, rfl, rfl, INV⟩ := hrel
    by_cases hlt : i < ns
    · obtain ⟨b1, o1, s, rfl, hs, c1, c2, bs1, bs2⟩ := (HS.out.grew INV.out.grew).at_ hlt
      have hst := rfold_snoc hs
      obtain ⟨s1, s2⟩ := s
      simp only at c1 c2 bs1 bs2
      obtain ⟨ro, hro⟩ : ∃ r, rnormR (sr.take i) = r := ⟨_, rfl⟩
      rw [hro] at hst INV
      have HST := Lib.hid hst
      have q0 : (0 : Int) ≤ (i : Int) := by omega
      have q1 : (i : Int) < (ns : Int) := by omega
      clear hs hst hro
      cases hp : properB (s1, s2) with
      | false =>
        have HP := Lib.hid hp
        have HN : Hid (rnormR (sr.take (i + 1)) = ro) := by unfold Hid; rw [HST.out]; unfold rstep; rw [hp]; rfl
        clear hp
        go_wp2_with fail
        refine (rproper_val HP.out _).mono ?_
        rintro e w2 ⟨rfl, g2⟩
        have INV2 : Hid (NmInv w1 (rnormR (sr.take (i + 1))).reverse Al j cl w2) := by unfold Hid; rw [HN.out]; exact ⟨own_grew INV.out.own g2, INV.out.len, INV.out.in64, INV.out.grew.trans g2⟩
        clear INV
        go_wp2_with fail
        go_roundw
        case rel => exact ⟨i + 1, j, Al, cl, by omega, by omega, by go_num, rfl, INV2⟩
        case measure => simp [intOf]; omega
      | true =>
        have HP := Lib.hid hp
        clear hp
        cases ro with
        | nil =>
          have HN : Hid ((rnormR (sr.take (i + 1))).reverse = ([] : List Sp).reverse ++ [(s1, s2)]) := by unfold Hid; rw [HST.out, rstep_nil HP.out]; rfl
          have hj0 : j = 0 := by rw [← INV.out.len]; rfl
          have t1 : decide (0 < (j : Int)) = false := decide_eq_false (by omega)
          have t2 : decide (0 < j) = false := decide_eq_false (by omega)
          clear hj0
          go_wp2_with fail
          refine (rproper_val HP.out _).mono ?_
          rintro e w2 ⟨rfl, g2⟩
          replace c1 := g2.cell c1
          replace c2 := g2.cell c2
          have g02 := INV.out.grew.trans g2
          have O2 := Lib.hid (own_grew INV.out.own g2)
          clear g2
          go_wp2_with fail
          go_quiet (fail)
          obtain ⟨wd, hwd⟩ : ∃ x, x = w2.drewN nq := ⟨_, rfl⟩
          have gd : Grew w2 wd := by rw [hwd]; exact (Grew.refl w2).drewN _
          rw [← hwd]
          clear hwd
          replace c1 := gd.cell c1
          replace c2 := gd.cell c2
          have hle := (g02.trans gd).le
          have BI : Hid (Sl (wd.alloc (.cells #[.int .i64 s1, .int .i64 s2] 33)) 2 (some ⟨wd.heap.size, 0, none⟩) 1 1 (flat [(s1, s2)])) := built 2 1 _ _ rfl rfl (by decide)
          go_wp2_with (at_builtin; refine wpList_append_sl _ rfl (.tmp 56) (.tmp 61) 22 rfl w1.heap.size 33 i0 (.agg #[.int .i64 0, .int .i64 0]) 2 16 Try.underlying22 hi hz0 hz1 hz2 rfl (by decide) (.slice Al j cl) j _ rfl ((own_grew O2.out gd).alloc _) (some ⟨wd.heap.size, 0, none⟩) 1 1 _ rfl BI.out (flat_one _) (by unfold maxLen; omega) (by omega) (by simp; omega) ?_; intro v3 w3 own3 hg3 hat3; obtain ⟨A3, c3, rfl⟩ := own_form own3)
          have INV2 : Hid (NmInv w1 (rnormR (sr.take (i + 1))).reverse A3 (j + 1) c3 w3) := by
            unfold Hid
            rw [HN.out]
            exact ⟨by rw [flat_append]; exact own3, by rw [List.length_append, INV.out.len]; rfl, in64_one INV.out.in64 ⟨bs1, bs2⟩, ((g02.trans gd).alloc _).grown hg3 (fun q hq => (O2.out.lt q hq).1)⟩
          clear own3 hg3 hat3 BI INV O2 gd c1 c2
          go_wp2_with fail
          go_roundw
          case rel => exact ⟨i + 1, j + 1, A3, c3, by omega, by omega, by go_num, rfl, INV2⟩
          case measure => simp [intOf]; omega
        | cons t rr =>
          obtain ⟨x1, x2⟩ := t
          have hrev : ((x1, x2) :: rr).reverse = rr.reverse ++ [(x1, x2)] := by simp
          rw [hrev] at INV
          have HREV := Lib.hid hrev
          have hlen : rr.length + 1 = j := by have := INV.out.len; simp at this; omega
          obtain ⟨gb, rfl, hgb⟩ := own_at INV.out.own (by omega)
          have hx := INV.out.in64 (x1, x2) (by simp)
          simp only at hx
          have cx : (flat (rr.reverse ++ [(x1, x2)]))[(j - 1) * 2 + 1]? = some (.int .i64 x2) := (flat_at _ (j - 1) (x1, x2) (by rw [show j - 1 = rr.reverse.length by rw [List.length_reverse]; omega, List.getElem?_append_right (Nat.le_refl _), Nat.sub_self]; rfl)).2
          obtain ⟨d1, z1⟩ := own_cells INV.out.own cx
          have t1 : decide (0 < (j : Int)) = true := decide_eq_true (by omega)
          have t2 : decide (0 < j) = true := decide_eq_true (by omega)
          have m1 : IntKind.i64.wrap ((j : Int) - 1) = (j : Int) - 1 := IntWalk.i64_in _ (by omega)
          have m2 : ((j : Int) - 1).toNat = j - 1 := by omega
          have m3 : (0 : Int) ≤ (j : Int) - 1 := by omega
          have m3' : (1 : Int) ≤ (j : Int) := by omega
          have m4 : (j : Int) - 1 < (j : Int) := by omega
          have HZ1 := Lib.hid z1
          have HLEN := Lib.hid hlen
          clear hrev cx hlen z1
          by_cases hle0 : s1 ≤ x2
          · have t3 : decide (s1 ≤ x2) = true := decide_eq_true hle0
            have HN : Hid ((rnormR (sr.take (i + 1))).reverse = rr.reverse ++ [(x1, max x2 s2)]) := by unfold Hid; rw [HST.out, rstep_join HP.out hle0]; simp
            go_wp2_with fail
            refine (rproper_val HP.out _).mono ?_
            rintro e w2 ⟨rfl, g2⟩
            replace c1 := g2.cell c1
            replace c2 := g2.cell c2
            replace d1 := g2.cell d1
            have g02 := INV.out.grew.trans g2
            have O2 := Lib.hid (own_grew INV.out.own g2)
            clear g2
            go_wp2_with fail
            go_quiet (fail)
            go_wp2_with fail
            obtain ⟨wd, hwd⟩ : ∃ x, x = w2.drewN nq := ⟨_, rfl⟩
            have gd : Grew w2 wd := by rw [hwd]; exact (Grew.refl w2).drewN _
            rw [← hwd]
            clear hwd
            replace c1 := gd.cell c1
            replace c2 := gd.cell c2
            replace d1 := gd.cell d1
            have OD := own_grew O2.out gd
            have z1 := (own_cells OD (j := (j - 1) * 2 + 1) (u := .int .i64 x2) (flat_at _ (j - 1) (x1, x2) (by rw [show j - 1 = rr.reverse.length by rw [List.length_reverse]; have := HLEN.out; omega, List.getElem?_append_right (Nat.le_refl _), Nat.sub_self]; rfl)).2).2
            have HOD := Lib.hid OD
            clear OD O2
            have INV2 : Hid (NmInv w1 (rnormR (sr.take (i + 1))).reverse (some ⟨gb, 0, none⟩) j cl (wd.drew.setCell ⟨gb, (j - 1) * 2 + 1, none⟩ (.int .i64 (max x2 s2)))) := by
              unfold Hid
              rw [HN.out]
              refine ⟨?_, by rw [← INV.out.len]; simp, ?_, ((g02.trans gd).drew).set hgb _⟩
              · have := own_put (j := (j - 1) * 2 + 1) (u := .int .i64 (max x2 s2)) (own_grew HOD.out (Grew.refl wd).drew)
                rw [show (j - 1) * 2 + 1 = rr.reverse.length * 2 + 1 by rw [List.length_reverse]; have := HLEN.out; omega, flat_last] at this
                rw [show (j - 1) * 2 + 1 = rr.reverse.length * 2 + 1 by rw [List.length_reverse]; have := HLEN.out; omega]
                exact this
              · intro s hs
                rcases List.mem_append.1 hs with hs | hs
                · exact INV.out.in64 s (List.mem_append_left _ hs)
                · simp at hs; subst hs; exact ⟨hx.1, by simp only; omega⟩
            go_region
            clear c1 c2 d1 z1 HOD INV gd
            go_wp2_with fail
            go_roundw
            case rel => exact ⟨i + 1, j, _, cl, by omega, by omega, by go_num, rfl, INV2⟩
            case measure => simp [intOf]; omega
          · have t3 : decide (s1 ≤ x2) = false := decide_eq_false hle0
            have HN : Hid ((rnormR (sr.take (i + 1))).reverse = (rr.reverse ++ [(x1, x2)]) ++ [(s1, s2)]) := by unfold Hid; rw [HST.out, rstep_new HP.out hle0]; simp
            go_wp2_with fail
            refine (rproper_val HP.out _).mono ?_
            rintro e w2 ⟨rfl, g2⟩
            replace c1 := g2.cell c1
            replace c2 := g2.cell c2
            replace d1 := g2.cell d1
            have g02 := INV.out.grew.trans g2
            have O2 := Lib.hid (own_grew INV.out.own g2)
            clear g2
            go_wp2_with fail
            go_quiet (fail)
            obtain ⟨wd, hwd⟩ : ∃ x, x = w2.drewN nq := ⟨_, rfl⟩
            have gd : Grew w2 wd := by rw [hwd]; exact (Grew.refl w2).drewN _
            rw [← hwd]
            clear hwd
            replace c1 := gd.cell c1
            replace c2 := gd.cell c2
            have hle := (g02.trans gd).le
            have BI : Hid (Sl (wd.alloc (.cells #[.int .i64 s1, .int .i64 s2] 33)) 2 (some ⟨wd.heap.size, 0, none⟩) 1 1 (flat [(s1, s2)])) := built 2 1 _ _ rfl rfl (by decide)
            go_wp2_with (at_builtin; refine wpList_append_sl _ rfl (.tmp 56) (.tmp 61) 22 rfl w1.heap.size 33 i0 (.agg #[.int .i64 0, .int .i64 0]) 2 16 Try.underlying22 hi hz0 hz1 hz2 rfl (by decide) (.slice (some ⟨gb, 0, none⟩) j cl) j _ rfl ((own_grew O2.out gd).alloc _) (some ⟨wd.heap.size, 0, none⟩) 1 1 _ rfl BI.out (flat_one _) (by unfold maxLen; omega) (by omega) (by simp; omega) ?_; intro v3 w3 own3 hg3 hat3; obtain ⟨A3, c3, rfl⟩ := own_form own3)
            have INV2 : Hid (NmInv w1 (rnormR (sr.take (i + 1))).reverse A3 (j + 1) c3 w3) := by
              unfold Hid
              rw [HN.out]
              exact ⟨by rw [flat_append]; exact own3, by rw [List.length_append, INV.out.len]; rfl, in64_one INV.out.in64 ⟨bs1, bs2⟩, ((g02.trans gd).alloc _).grown hg3 (fun q hq => (O2.out.lt q hq).1)⟩
            clear own3 hg3 hat3 BI INV O2 gd c1 c2
            go_wp2_with fail
            go_roundw
            case rel => exact ⟨i + 1, j + 1, A3, c3, by omega, by omega, by go_num, rfl, INV2⟩
            case measure => simp [intOf]; omega
    · have HF : Hid ((rnormR (sr.take i)).reverse = rnorm a) := by
        unfold Hid
        rw [List.take_of_length_le (by rw [LSR.out]; omega), HFIN.out]
      go_wp2_with fail
      go_ret
      rw [← HF.out]
      exact ⟨Al, j, cl, rfl, INV.out.len, INV.out.in64, own_base INV.out.own g1.le, g1.trans INV.out.grew⟩
end Go.Proofs.Ytngbkpplkkpagaa
