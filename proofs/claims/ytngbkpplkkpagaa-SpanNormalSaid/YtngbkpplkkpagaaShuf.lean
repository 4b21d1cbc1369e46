/-
  The law's function shuffled: a list in another order, in a row of its own.
-/
import Derived.Test.YtngbkpplkkpagaaFar
import Derived.Test.YtngbkpplkkpagaaMemB
import Derived.Test.YtngbkpplkkpagaaReg
namespace Go.Proofs.Ytngbkpplkkpagaa
open Go.RowKit Go.Proofs WageMem WageSpan WageReg

/-- A contract's end: a slice of its own that holds the spans in some order. -/
def RetP (ss : List Sp) (w : World) (r : Ending) (w' : World) : Prop :=
  ∃ p A n c, p.Perm ss ∧ r = .returned (.slice A n c) ∧ p.length = n ∧ w'.ownsRow w.heap.size 33 2 (.slice A n c) n (flat p) ∧ Grew w w'
theorem size33 (w : World) : (Go.sizeOf (Try.prog.elem 22)).run Try.prog w = .ok 2 w := by kernel_rfl
theorem elem22 : Try.prog.underlying 22 = some (.slice (Try.prog.elem 22)) := by kernel_rfl
theorem flat_take (ss : List Sp) : ∀ q, (flat ss).take (q * 2) = flat (ss.take q) := by
  induction ss with
  | nil => intro q; simp [flat]
  | cons s ss ih =>
    intro q
    cases q with
    | zero => simp [flat]
    | succ q => rw [show (q + 1) * 2 = q * 2 + 1 + 1 by omega]; show _ :: _ :: (flat ss).take (q * 2) = _; rw [ih]; rfl
theorem flat_drop (ss : List Sp) : ∀ q, (flat ss).drop (q * 2) = flat (ss.drop q) := by
  induction ss with
  | nil => intro q; simp [flat]
  | cons s ss ih =>
    intro q
    cases q with
    | zero => simp [flat]
    | succ q => rw [show (q + 1) * 2 = q * 2 + 1 + 1 by omega]; show (flat ss).drop (q * 2) = _; rw [ih]; rfl
theorem shuf_perm {p ss : List Sp} {k q : Nat} {s : Sp} (h : p.Perm (ss.take k)) (hs : ss[k]? = some s) : (p.take q ++ ([s] ++ p.drop q)).Perm (ss.take (k + 1)) := by
  rw [List.take_add_one, hs]
  have h1 : (p.take q ++ ([s] ++ p.drop q)).Perm (s :: (p.take q ++ p.drop q)) := List.perm_middle
  rw [List.take_append_drop] at h1
  exact h1.trans ((List.Perm.cons s h).trans (List.perm_append_singleton s _).symm)

set_option maxRecDepth 100000 in
set_option maxHeartbeats 4000000 in
theorem shuffled_any (A : Option Addr) (n c : Nat) (ss : List Sp) (y : Int) (w : World) (h : Spans w A n c ss) (hn : n ≤ 2000) (y0 : 0 ≤ y) (y1 : y ≤ 255) :
    Calls Try.prog 28 #[.slice A n c, .int .u8 y] w (RetP ss w) := by
  obtain ⟨i0, hi, hz0, hz1, hz2⟩ := info_parts info33
  have HH := Lib.hid h
  clear h
  go_enter Try.func28, Try.ntmps28
  go_wp2_with fail
  go_loopw [5, 11] (fun v i wr => ∃ (k : Nat) (p : List Sp) (Al : Option Addr) (cl : Nat), k ≤ n ∧ i = .int .i64 k ∧ v = .slice Al k cl ∧ Hid (p.Perm (ss.take k)) ∧ Hid (wr.ownsRow w.heap.size 33 2 (.slice Al k cl) k (flat p)) ∧ Grew w wr) (fun _ i _ => n - (intOf i).toNat)
  case atStart => exact ⟨0, [], none, 0, Nat.zero_le _, rfl, rfl, by simp [Hid], World.ownsRow_nil _ _ _ _, Grew.refl _⟩
  case round =>
    obtain ⟨k, p, Al, cl, hk, rfl, rfl, HP, OWN, hg⟩ := hrel
    by_cases hlt : k < n
    · obtain ⟨b, o, s, rfl, hs, c1, c2, b1, b2⟩ := (HH.out.grew hg).at_ hlt
      obtain ⟨s1, s2⟩ := s
      simp only at c1 c2 b1 b2
      have HS := Lib.hid hs
      clear hs
      have i0' : (0 : Int) ≤ (k : Int) := by omega
      have i1' : (k : Int) < (n : Int) := by omega
      have hle := hg.le
      obtain ⟨q, hq, hqk⟩ : ∃ q : Nat, (y + 3 * (k : Int)) % ((k : Int) + 1) = (q : Int) ∧ q ≤ k := by
        have h1 := Int.emod_nonneg (y + 3 * (k : Int)) (show (k : Int) + 1 ≠ 0 by omega)
        have h2 := Int.emod_lt_of_pos (y + 3 * (k : Int)) (show (0 : Int) < (k : Int) + 1 by omega)
        exact ⟨((y + 3 * (k : Int)) % ((k : Int) + 1)).toNat, by omega, by omega⟩
      obtain ⟨wa, hwa⟩ : ∃ x, x = wr.alloc (.cells #[.int .i64 s1, .int .i64 s2] 33) := ⟨_, rfl⟩
      have ga : Grew wr wa := by rw [hwa]; exact (Grew.refl wr).alloc _
      have e1 : wa.cell? ⟨wr.heap.size, 0, none⟩ = some (.int .i64 s1) := by rw [hwa]; simp
      have e2 : wa.cell? ⟨wr.heap.size, 1, none⟩ = some (.int .i64 s2) := by rw [hwa]; simp
      go_upto_region 6 with (fail)
      rw [← hwa]
      clear hwa c1 c2
      simp only [hq]
      clear hq
      have ow : wa.drew.ownsRow w.heap.size 33 2 (.slice Al k cl) k (flat p) := own_grew OWN.out ga.drew
      have sl := Sl.own ow
      have hcl : k ≤ cl := sl.1
      have hcm : cl ≤ 9223372036854775807 := sl.2.1
      have slH : Sl wa.drew 2 Al q q (flat (p.take q)) := by have := sl.head hqk (Nat.le_refl _) (by omega); rw [flat_take] at this; exact this
      have slT : Sl wa.drew 2 (tailA Al cl q 2) (k - q) (cl - q) (flat (p.drop q)) := by have := sl.tail hqk; rw [flat_drop] at this; exact this
      have r1 : ∀ x, (Instr.slice 22 (.slice Al k cl) none (some (.int .i64 (q : Int))) (some (.int .i64 (q : Int)))).run Try.prog x = .ok (.slice Al q q) x := fun x => run_slice_head3 x 22 2 elem22 (size33 x) Al k cl q _ _ (by omega)
      have r2 : ∀ x, (Instr.slice 22 (.slice Al k cl) (some (.int .i64 (q : Int))) none none).run Try.prog x = .ok (.slice (tailA Al cl q 2) (k - q) (cl - q)) x := fun x => run_slice_tail x 22 2 elem22 (size33 x) Al k cl q _ (by omega)
      have OW := Lib.hid ow
      have SH := Lib.hid slH
      have ST := Lib.hid slT
      clear ow sl slH slT
      have hC : ∀ w', Grew wa.drew w' → w'.cell? ⟨wr.heap.size, 0, none⟩ = some (.int .i64 s1) ∧ w'.cell? ⟨wr.heap.size, 1, none⟩ = some (.int .i64 s2) := fun w' g' => ⟨g'.cell e1, g'.cell e2⟩
      refine wp_region_G (G := Grew) (by kernel_rfl) Grew.refl 12 ?_
      refine wpAnyG_takes Grew.refl (fun _ _ _ => Grew.trans) (fun _ _ _ _ _ h => h) [0, 1, 2, 3, 4, 6, 7, 8] (fuel' := 4) (by kernel_rfl) (by kernel_rfl) (by simp only [pickOps, List.getElem?_toArray, List.getElem?_cons_zero, List.getElem?_cons_succ]; rfl) ?_
      repeat (first
        | (refine TakeAll.pure (v := ?_) (by rfl) ?_ ?_; rotate_left; (intro w' g'; obtain ⟨q1, q2⟩ := hC w' g'; go_simp; first | done | with_reducible rfl); (simp only [Act.put, List.setIfInBounds_toArray, List.set_cons_zero, List.set_cons_succ])))
      refine TakeAll.nil ?_
      refine wpAnyG_step (i := 5) (by kernel_rfl) (fuel' := 3) (by kernel_rfl) (by simp only [pickOps, List.getElem?_toArray, List.getElem?_cons_zero, List.getElem?_cons_succ]; rfl) rfl ?_
      intro w1 g1 K hK
      go_simp
      have ga2 := (Grew.refl w1).alloc (.cells #[.int .i64 s1, .int .i64 s2] 33)
      refine hK _ _ ga2 ?_
      clear hK K
      have BI := Lib.hid (built (w := w1) (t := 33) 2 1 #[.int .i64 s1, .int .i64 s2] (flat [(s1, s2)]) rfl rfl (by decide))
      obtain ⟨x1, hx1⟩ : ∃ x, x = w1.alloc (.cells #[.int .i64 s1, .int .i64 s2] 33) := ⟨_, rfl⟩
      rw [← hx1] at BI ga2 ⊢
      obtain ⟨z1, hz1'⟩ : ∃ z, z = w1.heap.size := ⟨_, rfl⟩
      rw [← hz1'] at BI ⊢
      clear hx1 hz1'
      refine wpAnyG_step (i := 9) (by kernel_rfl) (fuel' := 2) (by kernel_rfl) (by simp only [pickOps, List.getElem?_toArray, List.getElem?_cons_zero, List.getElem?_cons_succ]; rfl) rfl ?_
      intro w2 g2 K hK
      obtain ⟨A3, c3, w3, run3, sl3, g3⟩ := run_append_full_sl (P := Try.prog) w2 22 22 33 i0 _ 2 16 Try.underlying22 hi hz0 hz1 hz2 rfl (by decide) _ 1 _ (BI.out.grew g2) _ _ _ _ (ST.out.grew ((g1.trans ga2).trans g2)) (by omega) (by decide)
      refine wp_append_run w2 (.tmp 30) (.tmp 33) 22 22 rfl rfl rfl run3 ?_
      refine hK _ _ g3 ?_
      clear hK K
      simp only [Act.put, List.setIfInBounds_toArray, List.set_cons_zero, List.set_cons_succ]
      have SL3 := Lib.hid sl3
      clear run3 sl3
      refine wpAnyG_step (i := 10) (by kernel_rfl) (fuel' := 1) (by kernel_rfl) (by simp only [pickOps, List.getElem?_toArray, List.getElem?_cons_zero, List.getElem?_cons_succ]; rfl) rfl ?_
      intro w4 g4 K hK
      have gAll : Grew wa.drew w4 := (((g1.trans ga2).trans g2).trans g3).trans g4
      obtain ⟨v5, w5, run5, own5, g5, _⟩ := run_append_full (P := Try.prog) w4 22 22 33 i0 _ 2 16 Try.underlying22 hi hz0 hz1 hz2 rfl (by decide) _ q _ (SH.out.grew gAll) _ _ _ _ (SL3.out.grew g4) (by omega) (by omega) (by decide)
      obtain ⟨A5, c5, rfl⟩ := own_form own5
      refine wp_append_run w4 (.tmp 28) (.tmp 34) 22 22 rfl rfl rfl run5 ?_
      refine hK _ _ g5 ?_
      clear hK K run5
      simp only [Act.put, List.setIfInBounds_toArray, List.set_cons_zero, List.set_cons_succ]
      have gEnd : Grew wr w5 := ((ga.drew).trans gAll).trans g5
      have hz4 : w.heap.size ≤ w4.heap.size := (hg.trans ((ga.drew).trans gAll)).le
      have OWN5 : Hid (w5.ownsRow w.heap.size 33 2 (.slice A5 (k + 1) c5) (k + 1) (flat (p.take q ++ ([(s1, s2)] ++ p.drop q)))) := by
        have := own_base own5 hz4
        rw [← flat_append, ← flat_append] at this
        rw [show k + 1 = q + (1 + (k - q)) by omega]
        exact this
      have EQ : q + (1 + (k - q)) = k + 1 := by omega
      rw [EQ]
      clear own5 EQ
      refine wpAnyG_takes Grew.refl (fun _ _ _ => Grew.trans) (fun _ _ _ _ _ h => h) [11] (fuel' := 0) (by kernel_rfl) (by kernel_rfl) (by simp only [pickOps, List.getElem?_toArray, List.getElem?_cons_zero, List.getElem?_cons_succ]; rfl) ?_
      refine TakeAll.pure (v := ?_) (by rfl) ?_ ?_
      rotate_left
      · intro w' g'; go_simp; first | done | with_reducible rfl
      simp only [Act.put, List.setIfInBounds_toArray, List.set_cons_zero, List.set_cons_succ]
      refine TakeAll.nil ?_
      refine wpAnyG_done (by kernel_rfl) ?_ _
      intro w6 g6
      have HP5 := Lib.hid (shuf_perm (q := q) HP.out HS.out)
      replace OWN5 := Lib.hid (own_grew OWN5.out g6)
      have gE := (hg.trans gEnd).trans g6
      clear r1 r2 hC e1 e2 g1 ga2 g2 g3 g4 g5 gAll gEnd
      go_wp2_with fail
      go_roundw
      case rel => exact ⟨k + 1, _, A5, c5, by omega, by go_num, rfl, HP5, OWN5, gE⟩
      case measure => simp [intOf]; omega
    · have hf : ss.take k = ss := List.take_of_length_le (by rw [HH.out.1]; omega)
      have HP' : Hid (p.Perm ss) := by have := HP.out; rw [hf] at this; exact this
      have HL : Hid (p.length = k) := by unfold Hid; rw [HP'.out.length_eq, HH.out.1]; omega
      clear hf
      go_wp2_with fail
      go_ret
      exact ⟨p, Al, k, cl, HP'.out, rfl, HL.out, OWN.out, hg⟩
end Go.Proofs.Ytngbkpplkkpagaa
