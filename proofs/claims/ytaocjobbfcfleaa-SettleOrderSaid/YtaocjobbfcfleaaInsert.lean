/-
  slices.Insert of one answer into a row of the call's own: at the end, in place, into a new row.
-/
import Derived.Test.YtaocjobbfcfleaaInsP
namespace Go.Proofs.Ytaocjobbfcfleaa
open Go.RowKit Go.Proofs WageMem WageOrd WageRec WageMap WageReg WageSet

/-- A contract's end: the row with one more. -/
def RetIns (base : Nat) (l : List Ans) (n : Nat) (w : World) (r : Ending) (w' : World) : Prop :=
  ∃ A c, r = .returned (.slice A n c) ∧ w'.ownsRow base 29 5 (.slice A n c) n (l.flatMap ae) ∧ Below base w w'
theorem sl_one {w : World} {vb : Nat} {a : Ans} (hv : w.heap[vb]? = some (.cells (ae a).toArray 29 (0, 0))) : Sl w 5 (some ⟨vb, 0, none⟩) 1 1 (ae a) :=
  ⟨Nat.le_refl _, by unfold maxLen; omega, rfl, fun _ => ⟨vb, 0, rfl, fun j u hu => row_at hv j u hu⟩, fun h => by cases h⟩
set_option maxRecDepth 100000 in
set_option maxHeartbeats 4000000 in
theorem ins_end {base : Nat} (A : Option Addr) (n c : Nat) (l : List Ans) (a : Ans) (vb : Nat) (w : World) (own : w.ownsRow base 29 5 (.slice A n c) n (l.flatMap ae)) (hv : w.heap[vb]? = some (.cells (ae a).toArray 29 (0, 0))) (hbase : base ≤ w.heap.size) (hn : n ≤ 3000) :
    Calls Try.prog 40 #[.slice A n c, .int .i64 (n : Int), .slice (some ⟨vb, 0, none⟩) 1 1] w (RetIns base (l ++ [a]) (n + 1) w) := by
  obtain ⟨i0, hi, hz0, hz1, hz2⟩ := info_parts info29
  have OW := Lib.hid own
  have HV := Lib.hid (sl_one hv)
  have r1 : ∀ y, (Instr.slice 23 (.slice A n c) (some (.int .i64 (n : Int))) none none).run Try.prog y = .ok (.slice (tailA A c n 5) (n - n) (c - n)) y := fun y => run_slice_tail y 23 5 elem23 (sizeE23 y) A n c n .i64 (Nat.le_refl _)
  have q1 : ((n : Int) == (n : Int)) = true := by simp
  clear own hv
  go_enter Try.func40, Try.ntmps40
  go_wp2_with (at_builtin; refine wpList_append_sl _ rfl (.tmp 23) (.tmp 24) 23 rfl base 29 i0 _ 5 40 Try.underlying23 hi hz0 hz1 hz2 rfl (by decide) (.slice A n c) n _ rfl OW.out (some ⟨vb, 0, none⟩) 1 1 _ rfl HV.out (fun u hu => ae_ok.one a u hu) (by unfold maxLen; omega) (by omega) hbase ?_; intro v3 w3 own3 hg3 hat3; obtain ⟨A3, c3, rfl⟩ := own_form own3)
  have gE : Below base w w3 := (Below.refl base w).grown hg3 hbase (fun j hj => (OW.out.lt j hj).1)
  have OW3 : Hid (w3.ownsRow base 29 5 (.slice A3 (n + 1) c3) (n + 1) ((l ++ [a]).flatMap ae)) := by unfold Hid; rw [List.flatMap_append]; simpa using own3
  clear own3 hg3 hat3
  go_ret
  exact ⟨A3, c3, rfl, OW3.out, gE⟩

set_option maxRecDepth 100000 in
set_option maxHeartbeats 8000000 in
theorem ins_room {base : Nat} (g n c i : Nat) (l : List Ans) (a : Ans) (vb : Nat) (w : World) (own : w.ownsRow base 29 5 (.slice (some ⟨g, 0, none⟩) n c) n (l.flatMap ae)) (hv : w.heap[vb]? = some (.cells (ae a).toArray 29 (0, 0))) (hne : vb ≠ g) (hn : n ≤ 3000) (hi : i < n) (hc : n + 1 ≤ c) (hl : l.length = n) :
    Calls Try.prog 40 #[.slice (some ⟨g, 0, none⟩) n c, .int .i64 (i : Int), .slice (some ⟨vb, 0, none⟩) 1 1] w (RetIns base (l.take i ++ [a] ++ l.drop i) (n + 1) w) := by
  obtain ⟨hlen, h2⟩ := own
  rcases h2 with ⟨hv0, _⟩ | ⟨g', cap, cur, hv0, hb, hg, hnc, hcm, hcs, ht⟩
  · cases hv0
  · injection hv0 with e1 e2 e3
    injection e1 with e1
    injection e1 with e1
    subst e1 e3
    obtain ⟨F, hF⟩ : ∃ F, l.flatMap ae = F := ⟨_, rfl⟩
    have hFl : F.length = n * 5 := by rw [← hF, flat_len ae_ok, hl]
    obtain ⟨T, hT⟩ : ∃ T, cur.toList.drop (n * 5) = T := ⟨_, rfl⟩
    have hcur : cur.toList = F ++ T := by rw [← hF, ← ht, ← hT, List.take_append_drop]
    have hTl : 5 ≤ T.length := by rw [← hT, List.length_drop]; simp [hcs]; omega
    obtain ⟨D, hD⟩ : ∃ D, F.drop (i * 5) = D := ⟨_, rfl⟩
    obtain ⟨Pr, hPr⟩ : ∃ Pr, F.take (i * 5) = Pr := ⟨_, rfl⟩
    have hDl : D.length = (n - i) * 5 := by rw [← hD, List.length_drop, hFl]; omega
    have hic := ins_cells F T D Pr (ae a) (i * 5) (n * 5) hFl hPr hD (by omega) rfl hTl
    obtain ⟨c1, hc1⟩ : ∃ c1 : List Value, (F ++ T).take (i * 5 + 5) ++ D ++ (F ++ T).drop (i * 5 + 5 + D.length) = c1 := ⟨_, rfl⟩
    simp only [hc1] at hic
    obtain ⟨c2, hc2⟩ : ∃ c2 : List Value, c1.take (i * 5) ++ ae a ++ c1.drop (i * 5 + (ae a).length) = c2 := ⟨_, rfl⟩
    rw [hc2] at hic
    obtain ⟨hl2, hl1, hfin⟩ := hic
    have hDF : D.flatMap (fun v => [v]) = D := by simp
    have hD1 : ∀ v ∈ D, v.oneCell' = true := fun v hv => by rw [← hD, ← hF] at hv; exact flat_one ae_ok l v (List.mem_of_mem_drop hv)
    have hsrcD : ∀ (W : World), W.heap[g]? = some (.cells cur 29 (0, 0)) → ∀ j v, D[j]? = some v → W.cell? ((⟨g, i * 5, none⟩ : Addr).add j) = some v := fun W hW j v hj => by
      rw [addr_add_plain, cell_of_row W g (i * 5 + j) _ 29 (0, 0) hW, ← Array.getElem?_toList, hcur]
      have := (List.getElem?_eq_some_iff.1 hj).1
      rw [List.getElem?_append_left (by omega)]
      rw [← hD, List.getElem?_drop] at hj
      exact hj
    have hcp1 : ∀ ty, (Builtin.copy_ #[23, 23] ty #[.slice (some ⟨g, (i + 1) * 5, none⟩) (n - i) (c - (i + 1)), .slice (some ⟨g, i * 5, none⟩) (n + 1 - i) (c - i)]).run Try.prog w.drew = .ok (goInt ((n - i : Nat) : Int)) (w.drew.setRow g c1.toArray) := fun ty => by
      rw [run_copy_k w.drew 23 23 ty 29 5 g ((i + 1) * 5) (n - i) (c - (i + 1)) ⟨g, i * 5, none⟩ (n + 1 - i) (c - i) cur 29 D (n - i) Try.underlying23 size29 hg (by simp only [Nat.min_def]; split <;> omega) hDl (hsrcD w.drew hg) (by rw [hcs, hDl]; omega) hD1]
      rw [hcur, show (i + 1) * 5 = i * 5 + 5 by omega, hc1]
    obtain ⟨W1, hW1⟩ : ∃ W1, W1 = w.drew.setRow g c1.toArray := ⟨_, rfl⟩
    have hg1 : W1.heap[g]? = some (.cells c1.toArray 29 (0, 0)) := by rw [hW1]; exact setRow_heap w.drew g _ _ 29 (0, 0) hg
    have hv1 : W1.heap[vb]? = some (.cells (ae a).toArray 29 (0, 0)) := by rw [hW1]; exact (setRow_other w.drew g vb _ hne).trans hv
    have hcp2 : ∀ (W : World), W.heap[g]? = some (.cells c1.toArray 29 (0, 0)) → W.heap[vb]? = some (.cells (ae a).toArray 29 (0, 0)) → ∀ ty, (Builtin.copy_ #[23, 23] ty #[.slice (some ⟨g, i * 5, none⟩) (n + 1 - i) (c - i), .slice (some ⟨vb, 0, none⟩) 1 1]).run Try.prog W = .ok (goInt ((1 : Nat) : Int)) (W.setRow g c2.toArray) := fun W hW hWv ty => by
      rw [run_copy_k W 23 23 ty 29 5 g (i * 5) (n + 1 - i) (c - i) ⟨vb, 0, none⟩ 1 1 c1.toArray 29 (ae a) 1 Try.underlying23 size29 hW (by simp only [Nat.min_def]; split <;> omega) rfl
        (fun j v hj => by rw [addr_add_plain]; exact row_at hWv j v hj) (by simp [hl1, hFl]; show i * 5 + 5 ≤ _; omega) (fun u hu => ae_ok.one a u hu)]
      rw [List.toList_toArray, hc2]
    rw [← hW1] at hcp1
    have B1 : Below base w W1 := by rw [hW1]; exact below_row (Below.refl base w).drew hb _
    have hi5 : (i : Int) + 1 = ((i + 1 : Nat) : Int) := by omega
    have hn5 : (n : Int) + 1 = ((n + 1 : Nat) : Int) := by omega
    have r1 : ∀ y, (Instr.slice 23 (.slice (some ⟨g, 0, none⟩) n c) (some (.int .i64 (i : Int))) none none).run Try.prog y = .ok (.slice (some ⟨g, i * 5, none⟩) (n - i) (c - i)) y := tail_at rfl (by omega) (by omega)
    have r2 : ∀ y, (Instr.slice 23 (.slice (some ⟨g, 0, none⟩) n c) none (some (.int .i64 ((n : Int) + 1))) none).run Try.prog y = .ok (.slice (some ⟨g, 0, none⟩) (n + 1) c) y := head_at hn5 hc
    have r3 : ∀ y, (Instr.slice 23 (.slice (some ⟨g, 0, none⟩) (n + 1) c) (some (.int .i64 ((i : Int) + 1))) none none).run Try.prog y = .ok (.slice (some ⟨g, (i + 1) * 5, none⟩) (n - i) (c - (i + 1))) y := fun y => by have := tail_at (g := g) (n := n + 1) (c := c) hi5 (by omega) (by omega) y; rwa [show n + 1 - (i + 1) = n - i by omega] at this
    have r4 : ∀ y, (Instr.slice 23 (.slice (some ⟨g, 0, none⟩) (n + 1) c) (some (.int .i64 (i : Int))) none none).run Try.prog y = .ok (.slice (some ⟨g, i * 5, none⟩) (n + 1 - i) (c - i)) y := tail_at rfl (by omega) (by omega)
    have hov : ∀ lb cb, (callFunc 58 #[.slice (some ⟨vb, 0, none⟩) 1 1, .slice (some ⟨g, (i + 1) * 5, none⟩) lb cb]).run Try.prog w = .ok (.value (.bool false)) w := fun lb cb => over_no hv hg hne (by omega)
    have q1 : ((i : Int) == (n : Int)) = false := by rw [beq_eq_false_iff_ne]; omega
    have q1' : (i == n) = false := by rw [beq_eq_false_iff_ne]; omega
    have q2 : decide ((c : Int) < (n : Int) + 1) = false := decide_eq_false (by omega)
    have w1 : IntKind.i64.wrap ((n : Int) + 1) = (n : Int) + 1 := IntWalk.i64_in _ (by omega)
    have w2 : IntKind.i64.wrap ((i : Int) + 1) = (i : Int) + 1 := IntWalk.i64_in _ (by omega)
    have HA2 := hcp2 W1 hg1 hv1
    have HG1 := Lib.hid hg1
    have HV1 := Lib.hid hv1
    have HR1 := Lib.hid hcp1
    have HC2 : Hid (W1.setRow g c2.toArray |>.ownsRow base 29 5 (.slice (some ⟨g, 0, none⟩) (n + 1) c) (n + 1) ((l.take i ++ [a] ++ l.drop i).flatMap ae)) := by
      have e : (l.take i ++ [a] ++ l.drop i).flatMap ae = Pr ++ ae a ++ D := by
        rw [List.flatMap_append, List.flatMap_append, ← flat_take ae_ok, ← flat_drop ae_ok, hF, hPr, hD]; simp
      refine ⟨?_, .inr ⟨g, c, c2.toArray, rfl, hb, setRow_heap W1 g _ _ 29 (0, 0) hg1, hc, hcm, ?_, ?_⟩⟩
      · rw [flat_len ae_ok]; simp [hl]; omega
      · have : (F ++ T).length = c * 5 := by rw [← hcur]; simpa using hcs
        simp [hl2, this]
      · rw [e, List.toList_toArray, show (n + 1) * 5 = n * 5 + 5 by omega]; exact hfin
    have gE : Below base w (W1.setRow g c2.toArray) := below_row B1 hb _
    clear hW1 hfin hl2 hl1 hc2 hc1 hDl hPr hD hTl hcur hT hFl hF ht hg hv hcs hlen hsrcD hD1 hDF hcp2 hg1 hv1 hcp1 B1 hi5 hn5 hnc hb hne
    go_enter Try.func40, Try.ntmps40
    go_wp2_with (simp only [hov])
    refine wp_region_H (by kernel_rfl) (fun _ => True) ?_
    refine wpAnyH_takes (fun _ _ _ _ _ h => h) trivial [0, 1, 2, 3, 4, 5, 6, 7] (fuel' := 1) (by kernel_rfl) (by kernel_rfl) (by simp only [pickOps, List.getElem?_toArray, List.getElem?_cons_zero, List.getElem?_cons_succ]; rfl) ?_
    repeat (first
      | (refine TakeP.pure (v := ?_) (by rfl) ?_ ?_; rotate_left; (intro w' g'; go_simp; first | done | with_reducible rfl); (simp only [Act.put, List.setIfInBounds_toArray, List.set_cons_zero, List.set_cons_succ])))
    refine TakeP.nil ?_
    refine wpAnyH_step (i := 8) (by kernel_rfl) (fuel' := 0) (by kernel_rfl) (by simp only [pickOps, List.getElem?_toArray, List.getElem?_cons_zero, List.getElem?_cons_succ]; rfl) (by rfl) ?_
    intro K hK
    refine wp_copy_runI _ (.tmp 73) (.tmp 76) 23 23 rfl _ _ rfl rfl (HR1.out _) ?_
    refine hK _ _ trivial ?_
    clear hK K
    simp only [Act.put, List.setIfInBounds_toArray, List.set_cons_zero, List.set_cons_succ]
    refine wpAnyH_done (by kernel_rfl) ?_ _
    go_wp2_with (at_builtin; refine wpList_copy_runI _ rfl _ _ 23 23 rfl _ _ rfl rfl (HA2 _) ?_)
    go_ret
    exact ⟨some ⟨g, 0, none⟩, c, rfl, HC2.out, gE⟩

set_option maxRecDepth 100000 in
set_option maxHeartbeats 8000000 in
theorem ins_grow {base : Nat} (g n i : Nat) (l : List Ans) (a : Ans) (vb : Nat) (w : World) (own : w.ownsRow base 29 5 (.slice (some ⟨g, 0, none⟩) n n) n (l.flatMap ae)) (hv : w.heap[vb]? = some (.cells (ae a).toArray 29 (0, 0))) (hbase : base ≤ w.heap.size) (hn : n ≤ 3000) (hi : i < n) (hl : l.length = n) :
    Calls Try.prog 40 #[.slice (some ⟨g, 0, none⟩) n n, .int .i64 (i : Int), .slice (some ⟨vb, 0, none⟩) 1 1] w (RetIns base (l.take i ++ [a] ++ l.drop i) (n + 1) w) := by
  obtain ⟨i0, hi0, hz0, hz1, hz2⟩ := info_parts info29
  obtain ⟨hlen, h2⟩ := own
  rcases h2 with ⟨hv0, _⟩ | ⟨g', cap, cur, hv0, hb, hg, hnc, hcm, hcs, ht⟩
  · cases hv0
  · injection hv0 with e1 e2 e3
    injection e1 with e1
    injection e1 with e1
    subst e1 e3
    obtain ⟨F, hF⟩ : ∃ F, l.flatMap ae = F := ⟨_, rfl⟩
    have hFl : F.length = n * 5 := by rw [← hF, flat_len ae_ok, hl]
    have hcur : cur.toList = F := by rw [← hF, ← ht, List.take_of_length_le (by simp [hcs])]
    obtain ⟨D, hD⟩ : ∃ D, F.drop (i * 5) = D := ⟨_, rfl⟩
    obtain ⟨Pr, hPr⟩ : ∃ Pr, F.take (i * 5) = Pr := ⟨_, rfl⟩
    have hDl : D.length = (n - i) * 5 := by rw [← hD, List.length_drop, hFl]; omega
    have hPl : Pr.length = i * 5 := by rw [← hPr, List.length_take, hFl]; omega
    have hD1 : ∀ v ∈ D, v.oneCell' = true := fun v hv => by rw [← hD, ← hF] at hv; exact flat_one ae_ok l v (List.mem_of_mem_drop hv)
    have hgl : g < w.heap.size := (Array.getElem?_eq_some_iff.1 hg).1
    have hvl : vb < w.heap.size := (Array.getElem?_eq_some_iff.1 hv).1
    have hsrcD : ∀ (W : World), W.heap[g]? = some (.cells cur 29 (0, 0)) → ∀ j v, D[j]? = some v → W.cell? ((⟨g, i * 5, none⟩ : Addr).add j) = some v := fun W hW j v hj => by
      rw [addr_add_plain, cell_of_row W g (i * 5 + j) _ 29 (0, 0) hW, ← Array.getElem?_toList, hcur]
      rw [← hD, List.getElem?_drop] at hj
      exact hj
    have hsrcP : ∀ j v, Pr[j]? = some v → w.drew.cell? ((⟨g, 0, none⟩ : Addr).add j) = some v := fun j v hj => by
      rw [addr_add_plain, cell_of_row w.drew g (0 + j) _ 29 (0, 0) hg, ← Array.getElem?_toList, hcur, Nat.zero_add]
      rw [← hPr, List.getElem?_take] at hj
      split at hj
      · exact hj
      · cases hj
    have hold : (Builtin.firstCells i0.size i (.slice (some ⟨g, 0, none⟩) i n)).run Try.prog w.drew = .ok Pr.toArray w.drew := by
      rw [hz1]
      exact run_firstCells_some w.drew 5 i ⟨g, 0, none⟩ i n Pr (by rw [hPl]) hsrcP
    have hrz0 := fun ty => Go.Lib.run_append_grow_zeros w 23 3 ty 29 i0 _ .i64 .i64 Try.underlying23 Try.underlying3 hi0 hz0 (some ⟨g, 0, none⟩) i n Pr hold (n + 1 - i) (by omega) (by rw [hz1]; omega) (by omega) (by omega) (by rw [hz2]; omega) (by rw [hz2, show i + (n + 1 - i) = n + 1 by omega]; exact growslice_fits (by omega) (by omega))
    have hik : i + (n + 1 - i) = n + 1 := by omega
    rw [hik] at hrz0
    obtain ⟨G, hG⟩ : ∃ G, grownCap w (n + 1) n 29 = G := ⟨_, rfl⟩
    have hGn : n + 1 ≤ G := by rw [← hG]; exact grownCap_ge w _ _ _
    have hG63 : G ≤ maxLen := by rw [← hG]; exact grownCap_le_maxLen w (n + 1) n 29 (by unfold maxLen; omega)
    rw [hG] at hrz0
    obtain ⟨Z1, hZ1⟩ : ∃ Z1, Builtin.zeroCells (Value.agg #[.int .i64 0, .int .i64 0, .int .i64 0, .int .i64 0, .int .i64 0]).cells (n + 1 - i) = Z1 := ⟨_, rfl⟩
    obtain ⟨Z2, hZ2⟩ : ∃ Z2, Builtin.zeroCells (Value.agg #[.int .i64 0, .int .i64 0, .int .i64 0, .int .i64 0, .int .i64 0]).cells (G - (n + 1)) = Z2 := ⟨_, rfl⟩
    have hZ1l : Z1.size = (n + 1 - i) * 5 := by rw [← hZ1]; simp [Builtin.zeroCells, Value.cells]
    have hZ2l : Z2.size = (G - (n + 1)) * 5 := by rw [← hZ2]; simp [Builtin.zeroCells, Value.cells]
    rw [hZ1, hZ2] at hrz0
    obtain ⟨R0, hR0⟩ : ∃ R0, Pr.toArray ++ Z1 ++ Z2 = R0 := ⟨_, rfl⟩
    rw [hR0] at hrz0
    have hR0l : R0.size = G * 5 := by rw [← hR0]; simp [hZ1l, hZ2l, hPl]; omega
    obtain ⟨N, hN⟩ : ∃ N, w.heap.size = N := ⟨_, rfl⟩
    obtain ⟨W0, hW0⟩ : ∃ W0, w.drew.alloc (.cells R0 29) = W0 := ⟨_, rfl⟩
    rw [hN, hW0] at hrz0
    have hN0 : W0.heap[N]? = some (.cells R0 29 (0, 0)) := by rw [← hW0, ← hN]; exact heap_alloc_new w.drew _
    have B0 : Below w.heap.size w W0 := by rw [← hW0]; exact Below.alloc (Below.refl w.heap.size w).drew (Nat.le_refl _) _
    have hg0 : W0.heap[g]? = some (.cells cur 29 (0, 0)) := (B0.block g hgl).trans hg
    have hv0' : W0.heap[vb]? = some (.cells (ae a).toArray 29 (0, 0)) := (B0.block vb hvl).trans hv
    obtain ⟨c1, hc1⟩ : ∃ c1 : List Value, R0.toList.take (i * 5) ++ ae a ++ R0.toList.drop (i * 5 + (ae a).length) = c1 := ⟨_, rfl⟩
    have hc1l : c1.length = G * 5 := by have ha5 : (ae a).length = 5 := rfl; rw [← hc1, List.length_append, List.length_append, List.length_take, List.length_drop, Array.length_toList, hR0l, ha5]; omega
    obtain ⟨c2, hc2⟩ : ∃ c2 : List Value, c1.take ((i + 1) * 5) ++ D ++ c1.drop ((i + 1) * 5 + D.length) = c2 := ⟨_, rfl⟩
    have hc2l : c2.length = G * 5 := by rw [← hc2]; simp [hc1l, hDl]; omega
    have hfin : c2.take ((n + 1) * 5) = Pr ++ ae a ++ D := by
      have e1 : R0.toList.take (i * 5) = Pr := by rw [← hR0]; simp [← hPl]
      have e2 : c1.take ((i + 1) * 5) = Pr ++ ae a := by
        rw [← hc1, e1, List.take_append_of_le_length (by rw [List.length_append, hPl]; show _ ≤ _ + 5; omega), List.take_of_length_le (by rw [List.length_append, hPl]; show _ + 5 ≤ _; omega)]
      rw [← hc2, e2, List.take_append_of_le_length (by rw [List.length_append, List.length_append, hPl, hDl]; show _ ≤ _ + 5 + _; omega), List.take_of_length_le (by rw [List.length_append, List.length_append, hPl, hDl]; show _ + 5 + _ ≤ _; omega)]
    have hcpA : ∀ (W : World), W.heap[N]? = some (.cells R0 29 (0, 0)) → W.heap[vb]? = some (.cells (ae a).toArray 29 (0, 0)) → ∀ ty, (Builtin.copy_ #[23, 23] ty #[.slice (some ⟨N, i * 5, none⟩) (n + 1 - i) (G - i), .slice (some ⟨vb, 0, none⟩) 1 1]).run Try.prog W = .ok (goInt ((1 : Nat) : Int)) (W.setRow N c1.toArray) := fun W hW hWv ty => by
      rw [run_copy_k W 23 23 ty 29 5 N (i * 5) (n + 1 - i) (G - i) ⟨vb, 0, none⟩ 1 1 R0 29 (ae a) 1 Try.underlying23 size29 hW (by simp only [Nat.min_def]; split <;> omega) rfl
        (fun j v hj => by rw [addr_add_plain]; exact row_at hWv j v hj) (by rw [hR0l]; show i * 5 + 5 ≤ _; omega) (fun u hu => ae_ok.one a u hu), hc1]
    have hcpB : ∀ (W : World), W.heap[N]? = some (.cells c1.toArray 29 (0, 0)) → W.heap[g]? = some (.cells cur 29 (0, 0)) → ∀ ty, (Builtin.copy_ #[23, 23] ty #[.slice (some ⟨N, (i + 1) * 5, none⟩) (n - i) (G - (i + 1)), .slice (some ⟨g, i * 5, none⟩) (n - i) (n - i)]).run Try.prog W = .ok (goInt ((n - i : Nat) : Int)) (W.setRow N c2.toArray) := fun W hW hWg ty => by
      rw [run_copy_k W 23 23 ty 29 5 N ((i + 1) * 5) (n - i) (G - (i + 1)) ⟨g, i * 5, none⟩ (n - i) (n - i) c1.toArray 29 D (n - i) Try.underlying23 size29 hW (by simp only [Nat.min_def]; split <;> omega) hDl (hsrcD W hWg) (by simp [hc1l]; rw [hDl]; omega) hD1, List.toList_toArray, hc2]
    obtain ⟨W1, hW1⟩ : ∃ W1, W0.setRow N c1.toArray = W1 := ⟨_, rfl⟩
    have hN1 : W1.heap[N]? = some (.cells c1.toArray 29 (0, 0)) := by rw [← hW1]; exact setRow_heap W0 N _ _ 29 (0, 0) hN0
    have hg1 : W1.heap[g]? = some (.cells cur 29 (0, 0)) := by rw [← hW1]; exact (setRow_other W0 N g _ (by omega)).trans hg0
    have HA := hcpA W0 hN0 hv0'
    rw [hW1] at HA
    have HBB := hcpB W1.drew hN1 hg1
    have B2 : Below w.heap.size w (W1.drew.setRow N c2.toArray) := below_row (by rw [← hW1]; exact (below_row B0 (by omega) _).drew) (by omega) _
    have HFIN : Hid ((W1.drew.setRow N c2.toArray).ownsRow base 29 5 (.slice (some ⟨N, 0, none⟩) (n + 1) G) (n + 1) ((l.take i ++ [a] ++ l.drop i).flatMap ae)) := by
      have e : (l.take i ++ [a] ++ l.drop i).flatMap ae = Pr ++ ae a ++ D := by
        rw [List.flatMap_append, List.flatMap_append, ← flat_take ae_ok, ← flat_drop ae_ok, hF, hPr, hD]; simp
      refine ⟨?_, .inr ⟨N, G, c2.toArray, rfl, by omega, setRow_heap W1.drew N _ _ 29 (0, 0) hN1, hGn, hG63, ?_, ?_⟩⟩
      · rw [flat_len ae_ok]; simp [hl]; omega
      · simpa using hc2l
      · rw [e, List.toList_toArray]; exact hfin
    have gE : Below base w (W1.drew.setRow N c2.toArray) := Below.mono B2 hbase
    have r1 : ∀ y, (Instr.slice 23 (.slice (some ⟨g, 0, none⟩) n n) (some (.int .i64 (i : Int))) none none).run Try.prog y = .ok (.slice (some ⟨g, i * 5, none⟩) (n - i) (n - i)) y := tail_at rfl (by omega) (by omega)
    have r2 : ∀ y, (Instr.slice 23 (.slice (some ⟨g, 0, none⟩) n n) none (some (.int .i64 (i : Int))) none).run Try.prog y = .ok (.slice (some ⟨g, 0, none⟩) i n) y := head_at rfl (by omega)
    have hi5 : (i : Int) + 1 = ((i + 1 : Nat) : Int) := by omega
    have r3 : ∀ y, (Instr.slice 23 (.slice (some ⟨N, 0, none⟩) (n + 1) G) (some (.int .i64 ((i : Int) + 1))) none none).run Try.prog y = .ok (.slice (some ⟨N, (i + 1) * 5, none⟩) (n - i) (G - (i + 1))) y := fun y => by have := tail_at (g := N) (n := n + 1) (c := G) hi5 (by omega) (by omega) y; rwa [show n + 1 - (i + 1) = n - i by omega] at this
    have r4 : ∀ y, (Instr.slice 23 (.slice (some ⟨N, 0, none⟩) (n + 1) G) (some (.int .i64 (i : Int))) none none).run Try.prog y = .ok (.slice (some ⟨N, i * 5, none⟩) (n + 1 - i) (G - i)) y := tail_at rfl (by omega) (by omega)
    have hrz : ∀ ty, (Builtin.append_ #[23, 3] ty #[.slice (some ⟨g, 0, none⟩) i n, .int .i64 ((n : Int) + 1 - (i : Int))]).run Try.prog w = .ok (.slice (some ⟨N, 0, none⟩) (n + 1) G) W0 := fun ty => by
      have := hrz0 ty
      rwa [show ((n + 1 - i : Nat) : Int) = (n : Int) + 1 - (i : Int) by omega] at this
    have q1 : ((i : Int) == (n : Int)) = false := by rw [beq_eq_false_iff_ne]; omega
    have q1' : (i == n) = false := by rw [beq_eq_false_iff_ne]; omega
    have q2 : decide ((n : Int) < (n : Int) + 1) = true := decide_eq_true (by omega)
    have w1 : IntKind.i64.wrap ((n : Int) + 1) = (n : Int) + 1 := IntWalk.i64_in _ (by omega)
    have w2 : IntKind.i64.wrap ((i : Int) + 1) = (i : Int) + 1 := IntWalk.i64_in _ (by omega)
    have w3 : IntKind.i64.wrap ((n : Int) + 1 - (i : Int)) = (n : Int) + 1 - (i : Int) := IntWalk.i64_in _ (by omega)
    clear hrz0 hfin hc2l hc1l hc2 hc1 hN1 hg1 hW1 hcpA hcpB hv0' hg0 B0 hN0 hW0 hN hR0l hR0 hZ2l hZ1l hZ1 hZ2 hGn hG63 hG hik hold hsrcP hsrcD hgl hvl hD1 hPl hDl hPr hD hcur hFl hF ht hcs hg hb hlen hv hi0 hz0 hz1 hz2 hi5 hnc B2
    go_enter Try.func40, Try.ntmps40
    go_wp2_with (first
      | (at_builtin; refine Go.Lib.wpList_append_run _ rfl _ _ _ _ rfl _ _ rfl rfl _ _ (hrz _) ?_)
      | (at_builtin; refine wpList_copy_runI _ rfl _ _ 23 23 rfl _ _ rfl rfl (HA _) ?_))
    refine wp_region_H (by kernel_rfl) (fun _ => True) ?_
    refine wpAnyH_takes (fun _ _ _ _ _ h => h) trivial [0, 1, 2, 3, 4, 5, 6, 7] (fuel' := 1) (by kernel_rfl) (by kernel_rfl) (by simp only [pickOps, List.getElem?_toArray, List.getElem?_cons_zero, List.getElem?_cons_succ]; rfl) ?_
    repeat (first
      | (refine TakeP.pure (v := ?_) (by rfl) ?_ ?_; rotate_left; (intro w' g'; go_simp; first | done | with_reducible rfl); (simp only [Act.put, List.setIfInBounds_toArray, List.set_cons_zero, List.set_cons_succ])))
    refine TakeP.nil ?_
    refine wpAnyH_step (i := 8) (by kernel_rfl) (fuel' := 0) (by kernel_rfl) (by simp only [pickOps, List.getElem?_toArray, List.getElem?_cons_zero, List.getElem?_cons_succ]; rfl) (by rfl) ?_
    intro K hK
    refine wp_copy_runI _ (.tmp 50) (.tmp 53) 23 23 rfl _ _ rfl rfl (HBB _) ?_
    refine hK _ _ trivial ?_
    clear hK K
    simp only [Act.put, List.setIfInBounds_toArray, List.set_cons_zero, List.set_cons_succ]
    refine wpAnyH_done (by kernel_rfl) ?_ _
    go_wp2_with fail
    go_ret
    exact ⟨some ⟨N, 0, none⟩, G, rfl, HFIN.out, gE⟩
end Go.Proofs.Ytaocjobbfcfleaa
