/-
  The law OrdersServing, walked.
-/
import Derived.Test.YtjpnodmcglcihaaHeadO
import Derived.Test.YtjpnodmcglcihaaRegH
namespace Go.Proofs.Ytjpnodmcglcihaa
open Go.RowKit Go.Proofs WageMem WageOrd WageRec WageMap WageReg

theorem Grew.undrew {w w' : World} (h : Grew w w') : Grew w.drew w' := ⟨h.os, h.tape, h.output, h.size, h.below.block⟩
theorem serv_at {l : List Ord} {k : Nat} {x y : Ord} (hs : SortedO l) (hx : l[k]? = some x) (hy : l[k + 1]? = some y) : ltO x y := by
  unfold SortedO at hs
  rw [List.pairwise_iff_getElem] at hs
  obtain ⟨h1, e1⟩ := List.getElem?_eq_some_iff.1 hx
  obtain ⟨h2, e2⟩ := List.getElem?_eq_some_iff.1 hy
  have := hs k (k + 1) h1 h2 (by omega)
  rw [e1, e2] at this
  exact this
set_option maxRecDepth 100000 in
set_option maxHeartbeats 8000000 in
theorem serv_skip (A : Option Addr) (n c : Nat) (l : List Ord) (p : ByteArray) (mo kn : Int) (w : World) (_h : Ords w A n c l) (hn : n ≤ 9223372036854775807) (hs : decide (n ≤ 403) = false) : Calls Try.prog 6 #[.slice A n c, .string p, .int .i64 mo, .int .i64 kn] w fun e w' => e = .returned (.bool true) ∧ Grew w w' := by
  have HS := Lib.hid hs
  clear hs
  go_enter Try.func6, Try.ntmps6
  go_wp2_with fail
  refine (head_true _).mono ?_
  rintro e v1 ⟨rfl, g1⟩
  go_wp2_with fail
  refine (short_any A n c _ hn HS.out).mono ?_
  rintro e v2 ⟨rfl, g2⟩
  go_wp2_with fail
  go_ret
  exact ⟨rfl, g1.trans g2⟩
set_option maxRecDepth 100000 in
set_option maxHeartbeats 8000000 in
theorem serv_main (A : Option Addr) (n c : Nat) (l : List Ord) (p : ByteArray) (mo kn : Int) (w : World) (h : Ords w A n c l) (hn : n ≤ 403) : Calls Try.prog 6 #[.slice A n c, .string p, .int .i64 mo, .int .i64 kn] w fun e w' => e = .returned (.bool true) ∧ Grew w w' := by
  have HH := Lib.hid h
  have HS := Lib.hid (decide_eq_true hn)
  obtain ⟨r, hr⟩ : ∃ r, openL l p mo kn = r := ⟨_, rfl⟩
  have HR := Lib.hid hr
  have HSo : Hid (SortedO r) := by unfold Hid; rw [← hr]; exact openL_sorted _ _ _ _
  clear h hr
  go_enter Try.func6, Try.ntmps6
  go_wp2_with fail
  refine (head_true _).mono ?_
  rintro e v1 ⟨rfl, g1⟩
  go_wp2_with fail
  refine (short_any A n c _ (by omega) HS.out).mono ?_
  rintro e v2 ⟨rfl, g2⟩
  go_wp2_with fail
  refine (open_val (HH.out.grew (g1.trans g2)) (by omega) HR.out).mono ?_
  rintro e v3 ⟨A3, n3, c3, rfl, h3, g3⟩
  have H3 := Lib.hid h3
  have hn3 := h3.1.le
  have GG := Lib.hid ((g1.trans g2).trans g3)
  clear h3 g1 g2 g3
  go_wp2_with fail
  go_loopw [11] (fun i wr => ∃ k : Nat, 1 ≤ k ∧ k ≤ n3 + 1 ∧ i = .int .i64 k ∧ Grew v3 wr) (fun i _ => n3 + 1 - (intOf i).toNat)
  case atStart => exact ⟨1, Nat.le_refl _, by omega, rfl, Grew.refl _⟩
  case round =>
    obtain ⟨k, hk1, hk, rfl, hg⟩ := hrel
    by_cases hlt : k < n3
    · obtain ⟨b, o, x, rfl, hx, hrx⟩ := (H3.out.1.grew hg.drew).at_ oe_ok (show k - 1 < n3 by omega)
      obtain ⟨b', o', y, ey, hy, hry⟩ := (H3.out.1.grew hg.drew).at_ oe_ok (show k < n3 by omega)
      injection ey with ey
      injection ey with ey ey2
      subst ey ey2
      have hlo := serv_at HSo.out hx (by rw [show k - 1 + 1 = k by omega]; exact hy)
      have i0 : (0 : Int) ≤ (k : Int) := by omega
      have i1 : (k : Int) < (n3 : Int) := by omega
      have m1 : IntKind.i64.wrap ((k : Int) - 1) = (k : Int) - 1 := IntWalk.i64_in _ (by omega)
      have m2 : ((k : Int) - 1).toNat = k - 1 := by omega
      have m3 : (0 : Int) ≤ (k : Int) - 1 := by omega
      have m3' : (1 : Int) ≤ (k : Int) := by omega
      have m4 : (k : Int) - 1 < (n3 : Int) := by omega
      have hC : ∀ w', Grew wr.drew w' → (w'.cell? ⟨b, o + (k - 1) * 8, none⟩ = some (.int .i64 x.n) ∧ w'.cell? ⟨b, o + (k - 1) * 8 + 1, none⟩ = some (.string x.p) ∧ w'.cell? ⟨b, o + (k - 1) * 8 + 2, none⟩ = some (.string x.c) ∧ w'.cell? ⟨b, o + (k - 1) * 8 + 3, none⟩ = some (.int .i64 x.r) ∧ w'.cell? ⟨b, o + (k - 1) * 8 + 4, none⟩ = some (.int .i64 x.k) ∧ w'.cell? ⟨b, o + (k - 1) * 8 + 5, none⟩ = some (.int .i64 x.f) ∧ w'.cell? ⟨b, o + (k - 1) * 8 + 6, none⟩ = some (.int .i64 x.m) ∧ w'.cell? ⟨b, o + (k - 1) * 8 + 7, none⟩ = some (.bool x.fam)) ∧ w'.cell? ⟨b, o + k * 8, none⟩ = some (.int .i64 y.n) ∧ w'.cell? ⟨b, o + k * 8 + 1, none⟩ = some (.string y.p) ∧ w'.cell? ⟨b, o + k * 8 + 2, none⟩ = some (.string y.c) ∧ w'.cell? ⟨b, o + k * 8 + 3, none⟩ = some (.int .i64 y.r) ∧ w'.cell? ⟨b, o + k * 8 + 4, none⟩ = some (.int .i64 y.k) ∧ w'.cell? ⟨b, o + k * 8 + 5, none⟩ = some (.int .i64 y.f) ∧ w'.cell? ⟨b, o + k * 8 + 6, none⟩ = some (.int .i64 y.m) ∧ w'.cell? ⟨b, o + k * 8 + 7, none⟩ = some (.bool y.fam) := fun w' g' => ⟨cells24 (range_grew hrx g'), cells24 (range_grew hry g')⟩
      clear hx hy hrx hry
      go_wp2_with fail
      refine wp_region_H (by kernel_rfl) (fun w' => Grew wr.drew w') ?_
      refine wpAnyH_takes (fun _ _ _ _ _ h => h) (Grew.refl _) [0, 1, 2, 3, 4, 5, 6, 7, 8] (fuel' := 4) (by kernel_rfl) (by kernel_rfl) (by simp only [pickOps, List.getElem?_toArray, List.getElem?_cons_zero, List.getElem?_cons_succ]; rfl) ?_
      repeat (first
        | (refine TakeP.pure (v := ?_) (by rfl) ?_ ?_; rotate_left; (intro w' g'; obtain ⟨⟨c0, c1, c2, c3, c4, c5, c6, c7⟩, d0, d1, d2, d3, d4, d5, d6, d7⟩ := hC w' g'; go_simp; first | done | with_reducible rfl); (simp only [Act.put, List.setIfInBounds_toArray, List.set_cons_zero, List.set_cons_succ])))
      refine TakeP.nil ?_
      clear hC m1 m2
      refine wpAnyH_two (i := 9) (j := 10) (by kernel_rfl) (fuel' := 3) (by kernel_rfl) (by simp only [pickOps, List.getElem?_toArray, List.getElem?_cons_zero, List.getElem?_cons_succ]; rfl) rfl (by simp only [pickOps, List.getElem?_toArray, List.getElem?_cons_zero, List.getElem?_cons_succ]; rfl) rfl ?_ ?_
      · intro K hK
        go_simp
        refine hK _ _ (Grew.undrew (((Grew.refl wr).alloc _).drew)) ?_
        clear hK K
        refine wpAnyH_step (i := 10) (by kernel_rfl) (fuel' := 2) (by kernel_rfl) (by simp only [pickOps, List.getElem?_toArray, List.getElem?_cons_zero, List.getElem?_cons_succ]; rfl) (by rfl) ?_
        intro K hK
        go_simp
        refine hK _ _ (Grew.undrew ((((Grew.refl wr).alloc _).alloc _).drew)) ?_
        clear hK K
        refine wpAnyH_step (i := 11) (by kernel_rfl) (fuel' := 1) (by kernel_rfl) (by simp only [pickOps, List.getElem?_toArray, List.getElem?_cons_zero, List.getElem?_cons_succ]; rfl) (by rfl) ?_
        intro K hK
        go_simp
        refine hK _ _ (Grew.undrew ((((Grew.refl wr).alloc _).alloc _).drew)) ?_
        clear hK K
        refine wpAnyH_step (i := 12) (by kernel_rfl) (fuel' := 0) (by kernel_rfl) (by simp only [pickOps, List.getElem?_toArray, List.getElem?_cons_zero, List.getElem?_cons_succ]; rfl) (by rfl) ?_
        intro K hK
        go_simp
        refine hK _ _ (Grew.undrew ((((Grew.refl wr).alloc _).alloc _).drew)) ?_
        clear hK K
        refine wpAnyH_done (by kernel_rfl) ?_ _
        rcases hlo with hlo | ⟨hlo, hln⟩
        · have q1 : decide (y.r < x.r) = false := decide_eq_false (by omega)
          have q2 : (x.r == y.r) = false := by rw [beq_eq_false_iff_ne]; omega
          clear hlo
          go_wp2_with fail
          go_roundw
          case rel => exact ⟨k + 1, by omega, by omega, by go_num, ((hg.alloc _).alloc _).drew⟩
          case measure => simp [intOf]; omega
        · have q1 : decide (y.r < x.r) = false := decide_eq_false (by omega)
          have q2 : (x.r == y.r) = true := by rw [beq_iff_eq]; exact hlo
          have q3 : decide (y.n ≤ x.n) = false := decide_eq_false (by omega)
          clear hlo hln
          go_wp2_with fail
          go_roundw
          case rel => exact ⟨k + 1, by omega, by omega, by go_num, ((hg.alloc _).alloc _).drew⟩
          case measure => simp [intOf]; omega
      · intro K hK
        go_simp
        refine hK _ _ (Grew.undrew (((Grew.refl wr).alloc _).drew)) ?_
        clear hK K
        refine wpAnyH_step (i := 9) (by kernel_rfl) (fuel' := 2) (by kernel_rfl) (by simp only [pickOps, List.getElem?_toArray, List.getElem?_cons_zero, List.getElem?_cons_succ]; rfl) (by rfl) ?_
        intro K hK
        go_simp
        refine hK _ _ (Grew.undrew ((((Grew.refl wr).alloc _).alloc _).drew)) ?_
        clear hK K
        refine wpAnyH_step (i := 11) (by kernel_rfl) (fuel' := 1) (by kernel_rfl) (by simp only [pickOps, List.getElem?_toArray, List.getElem?_cons_zero, List.getElem?_cons_succ]; rfl) (by rfl) ?_
        intro K hK
        go_simp
        refine hK _ _ (Grew.undrew ((((Grew.refl wr).alloc _).alloc _).drew)) ?_
        clear hK K
        refine wpAnyH_step (i := 12) (by kernel_rfl) (fuel' := 0) (by kernel_rfl) (by simp only [pickOps, List.getElem?_toArray, List.getElem?_cons_zero, List.getElem?_cons_succ]; rfl) (by rfl) ?_
        intro K hK
        go_simp
        refine hK _ _ (Grew.undrew ((((Grew.refl wr).alloc _).alloc _).drew)) ?_
        clear hK K
        refine wpAnyH_done (by kernel_rfl) ?_ _
        rcases hlo with hlo | ⟨hlo, hln⟩
        · have q1 : decide (y.r < x.r) = false := decide_eq_false (by omega)
          have q2 : (x.r == y.r) = false := by rw [beq_eq_false_iff_ne]; omega
          clear hlo
          go_wp2_with fail
          go_roundw
          case rel => exact ⟨k + 1, by omega, by omega, by go_num, ((hg.alloc _).alloc _).drew⟩
          case measure => simp [intOf]; omega
        · have q1 : decide (y.r < x.r) = false := decide_eq_false (by omega)
          have q2 : (x.r == y.r) = true := by rw [beq_iff_eq]; exact hlo
          have q3 : decide (y.n ≤ x.n) = false := decide_eq_false (by omega)
          clear hlo hln
          go_wp2_with fail
          go_roundw
          case rel => exact ⟨k + 1, by omega, by omega, by go_num, ((hg.alloc _).alloc _).drew⟩
          case measure => simp [intOf]; omega
    · go_wp2_with fail
      go_ret
      exact ⟨rfl, GG.out.trans hg⟩
theorem serv_law (A : Option Addr) (n c : Nat) (l : List Ord) (p : ByteArray) (mo kn : Int) (w : World) (h : Ords w A n c l) : Calls Try.prog 6 #[.slice A n c, .string p, .int .i64 mo, .int .i64 kn] w fun e w' => e = .returned (.bool true) ∧ Grew w w' := by
  by_cases hs : n ≤ 403
  · exact serv_main A n c l p mo kn w h hs
  · exact serv_skip A n c l p mo kn w h h.1.le (decide_eq_false hs)
end Go.Proofs.Ytjpnodmcglcihaa
