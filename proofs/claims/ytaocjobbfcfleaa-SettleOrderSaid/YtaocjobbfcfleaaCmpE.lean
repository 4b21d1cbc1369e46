/-
  Entries are sorted: cmp.Or, the closure of settle.Entries, slices.SortFunc.
-/
import Derived.Test.YtaocjobbfcfleaaEntP
import Derived.Test.YtaocjobbfcfleaaSearch
import Derived.Test.YtaocjobbfcfleaaShelf
import Derived.Test.YtaocjobbfcfleaaSpent
import Derived.Sort.Grow
namespace Go.Proofs.Ytaocjobbfcfleaa
open Go.Shelf Go.RowKit Go.Proofs WageMem WageOrd WageRec WageMap WageReg WageSet Go.Sort Go.Lib

/-- The world has drawn and laid blocks; nothing else. -/
def Lays (w w' : World) : Prop := ∃ q os, w' = grow (w.drewN q) os
theorem Lays.refl (w : World) : Lays w w := ⟨0, #[], by rw [grow_empty]; rfl⟩
theorem Lays.alloc {w w' : World} (h : Lays w w') (o : Obj) : Lays w (w'.alloc o) := by
  obtain ⟨q, os, rfl⟩ := h
  exact ⟨q, os ++ #[o], by rw [alloc_eq_grow, grow_grow]⟩
theorem Lays.drewN {w w' : World} (h : Lays w w') (n : Nat) : Lays w (w'.drewN n) := by
  obtain ⟨q, os, rfl⟩ := h
  exact ⟨q + n, os, by rw [← World.drewN_drewN]; rfl⟩
theorem Lays.trans {a b c : World} (h : Lays a b) (k : Lays b c) : Lays a c := by
  obtain ⟨q, os, rfl⟩ := k
  obtain ⟨q1, os1, h1⟩ := h.drewN q
  rw [h1]
  exact ⟨q1, os1 ++ os, by rw [grow_grow]⟩
theorem Lays.cell {w w' : World} (h : Lays w w') {p : Addr} {v : Value} (hc : w.cell? p = some v) : w'.cell? p = some v := by
  obtain ⟨q, os, rfl⟩ := h
  obtain ⟨o, ho, _⟩ := cells_of_cell hc
  have hlt := (Array.getElem?_eq_some_iff.1 ho).1
  refine (World.cell?_of_block ?_).trans (show (w.drewN q).cell? p = some v from hc)
  show (w.heap ++ os)[p.block]? = w.heap[p.block]?
  rw [Array.getElem?_append_left hlt]
theorem Lays.range {w w' : World} (h : Lays w w') {b o : Nat} {cs : List Value} (hr : w.rangeAt b o cs) : w'.rangeAt b o cs := fun j u hu => h.cell (hr j u hu)
theorem Lays.drew {w w' : World} (h : Lays w w') : Lays w w'.drew := h.drewN 1
def orI (x y : Int) : Int := if x = 0 then y else x
theorem or_any (z : Nat) (x y : Int) (w : World) (h0 : w.cell? ⟨z, 0, none⟩ = some (.int .i64 x)) (h1 : w.cell? ⟨z, 1, none⟩ = some (.int .i64 y)) : Calls Try.prog 47 #[.slice (some ⟨z, 0, none⟩) 2 2] w fun e w' => e = .returned (.int .i64 (orI x y)) ∧ Lays w w' := by
  have HV := Lib.hid (show orI x y = orI x y from rfl)
  obtain ⟨r, hr⟩ : ∃ r, orI x y = r := ⟨_, rfl⟩
  have HR := Lib.hid hr
  have H0 := Lib.hid h0
  have H1 := Lib.hid h1
  rw [hr]
  clear HV hr h0 h1
  go_enter Try.func47, Try.ntmps47
  go_wp2_with fail
  go_loopw [8] (fun i v => ∃ k : Nat, k ≤ 2 ∧ i = .int .i64 k ∧ Hid (1 ≤ k → x = 0) ∧ Hid (2 ≤ k → y = 0) ∧ Hid (Lays w v)) (fun i _ => 2 - (intOf i).toNat)
  case atStart => exact ⟨0, by omega, rfl, fun h => absurd h (by omega), fun h => absurd h (by omega), Lays.refl w⟩
  case round =>
    obtain ⟨k, hk, rfl, Z1, Z2, LL⟩ := hrel
    have c0 := LL.out.cell H0.out
    have c1 := LL.out.cell H1.out
    match k, hk with
    | 0, _ =>
      by_cases hz : x = 0
      · have q : (x != 0) = false := by rw [bne_eq_false_iff_eq]; exact hz
        have HZ := Lib.hid hz
        clear hz
        go_wp2_with fail
        go_roundw
        case rel => exact ⟨1, by omega, by go_num, fun _ => HZ.out, fun h => absurd h (by omega), LL⟩
        case measure => simp [intOf]
      · have q : (x != 0) = true := by rw [bne_iff_ne]; exact hz
        have HE : Hid (x = r) := by unfold Hid; rw [← HR.out]; unfold orI; rw [if_neg hz]
        clear hz
        go_wp2_with fail
        go_ret
        exact ⟨ret_int HE.out, LL.out⟩
    | 1, _ =>
      by_cases hz : y = 0
      · have q : (y != 0) = false := by rw [bne_eq_false_iff_eq]; exact hz
        have HZ := Lib.hid hz
        clear hz
        go_wp2_with fail
        go_roundw
        case rel => exact ⟨2, by omega, by go_num, fun _ => Z1.out (by omega), fun _ => HZ.out, LL⟩
        case measure => simp [intOf]
      · have q : (y != 0) = true := by rw [bne_iff_ne]; exact hz
        have HE : Hid (y = r) := by unfold Hid; rw [← HR.out]; unfold orI; rw [if_pos (Z1.out (by omega))]
        clear hz
        go_wp2_with fail
        go_ret
        exact ⟨ret_int HE.out, LL.out⟩
    | 2, _ =>
      have HE : Hid (0 = r) := by unfold Hid; rw [← HR.out]; unfold orI; rw [if_pos (Z1.out (by omega)), Z2.out (by omega)]
      go_wp2_with fail
      go_ret
      exact ⟨ret_int HE.out, LL.out⟩
def cmpE (x y : Ent) : Int := orI (cmpI x.b y.b) (cmpI x.id y.id)
set_option maxRecDepth 100000 in
set_option maxHeartbeats 4000000 in
theorem byE_any (x y : Ent) (W : World) : Calls Try.prog 46 #[nv x, nv y] W fun e w' => e = .returned (.int .i64 (cmpE x y)) ∧ Lays W w' := by
  show Calls Try.prog 46 #[.agg #[.int .i64 x.id, .string x.de, .string x.cr, .int .i64 x.c, .int .i64 x.d, .int .i64 x.b], .agg #[.int .i64 y.id, .string y.de, .string y.cr, .int .i64 y.c, .int .i64 y.d, .int .i64 y.b]] W _
  obtain ⟨b1, hb1⟩ : ∃ b, b = W.heap.size := ⟨_, rfl⟩
  obtain ⟨b2, hb2⟩ : ∃ b, b = W.heap.size + 1 := ⟨_, rfl⟩
  obtain ⟨w1, hw1⟩ : ∃ z, z = W.alloc (.cells #[.int .i64 x.id, .string x.de, .string x.cr, .int .i64 x.c, .int .i64 x.d, .int .i64 x.b] 50) := ⟨_, rfl⟩
  obtain ⟨wl, hwl⟩ : ∃ z, z = w1.alloc (.cells #[.int .i64 y.id, .string y.de, .string y.cr, .int .i64 y.c, .int .i64 y.d, .int .i64 y.b] 50) := ⟨_, rfl⟩
  have l1 : Lays W w1 := by rw [hw1]; exact (Lays.refl W).alloc _
  have l12 : Lays w1 wl := by rw [hwl]; exact (Lays.refl w1).alloc _
  have sz1 : w1.heap.size = W.heap.size + 1 := by rw [hw1]; simp
  have RX : Hid (wl.rangeAt b1 0 (ne x)) := by rw [hb1]; exact l12.range (by rw [hw1]; exact range_new W (ne x) 50)
  have RY : Hid (wl.rangeAt b2 0 (ne y)) := by rw [hb2, ← sz1]; rw [hwl]; exact range_new w1 (ne y) 50
  have L2 := Lib.hid (l1.trans l12)
  have hC : ∀ w', Lays wl.drew w' → (w'.cell? ⟨b1, 5, none⟩ = some (.int .i64 x.b) ∧ w'.cell? ⟨b1, 0, none⟩ = some (.int .i64 x.id)) ∧ w'.cell? ⟨b2, 5, none⟩ = some (.int .i64 y.b) ∧ w'.cell? ⟨b2, 0, none⟩ = some (.int .i64 y.id) := fun w' g' => by
    have gg : Lays wl w' := ((Lays.refl wl).drewN 1).trans g'
    have h1 := n_cells0 (gg.range RX.out)
    have h2 := n_cells0 (gg.range RY.out)
    exact ⟨⟨h1.2.2.2.2.2, h1.1⟩, h2.2.2.2.2.2, h2.1⟩
  obtain ⟨p, hp⟩ : ∃ p, cmpI x.b y.b = p := ⟨_, rfl⟩
  obtain ⟨q, hq⟩ : ∃ q, cmpI x.id y.id = q := ⟨_, rfl⟩
  have HC : Hid (cmpE x y = orI p q) := by unfold Hid cmpE; rw [hp, hq]
  have HP := Lib.hid hp
  have HQ := Lib.hid hq
  clear l1 l12 RX RY hp hq sz1
  go_enter Try.func46, Try.ntmps46
  go_wp2_with fail
  rw [← hw1]
  rw [← hwl, ← hb2, ← hb1]
  clear hw1 hwl hb1 hb2
  refine wp_region_H (by kernel_rfl) (fun w' => Lays wl.drew w') ?_
  refine wpAnyH_takes (fun _ _ _ _ _ h => h) (Lays.refl _) [0, 1, 2, 3, 5, 6, 7, 8] (fuel' := 5) (by kernel_rfl) (by kernel_rfl) (by simp only [pickOps, List.getElem?_toArray, List.getElem?_cons_zero, List.getElem?_cons_succ]; rfl) ?_
  repeat (first
    | (refine TakeP.pure (v := ?_) (by rfl) ?_ ?_; rotate_left; (intro w' g'; obtain ⟨⟨c0, c1⟩, d0, d1⟩ := hC w' g'; go_simp; first | done | with_reducible rfl); (simp only [Act.put, List.setIfInBounds_toArray, List.set_cons_zero, List.set_cons_succ])))
  refine TakeP.nil ?_
  refine wpAnyH_step (i := 4) (by kernel_rfl) (fuel' := 4) (by kernel_rfl) (by simp only [pickOps, List.getElem?_toArray, List.getElem?_cons_zero, List.getElem?_cons_succ]; rfl) (by rfl) ?_
  intro K hK
  refine wp_call 39 #[.int .i64 x.b, .int .i64 y.b] (by go_simp; first | done | rfl) ?_
  refine (compare_any _ _ _).mono ?_
  rintro e w5 ⟨rfl, rfl⟩
  refine ⟨_, rfl, hK _ _ (Lays.refl _) ?_⟩
  clear hK K
  rw [HP.out]
  simp only [Act.put, List.setIfInBounds_toArray, List.set_cons_zero, List.set_cons_succ]
  refine wpAnyH_step (i := 9) (by kernel_rfl) (fuel' := 3) (by kernel_rfl) (by simp only [pickOps, List.getElem?_toArray, List.getElem?_cons_zero, List.getElem?_cons_succ]; rfl) (by rfl) ?_
  intro K hK
  refine wp_call 39 #[.int .i64 x.id, .int .i64 y.id] (by go_simp; first | done | rfl) ?_
  refine (compare_any _ _ _).mono ?_
  rintro e w5 ⟨rfl, rfl⟩
  refine ⟨_, rfl, hK _ _ (Lays.refl _) ?_⟩
  clear hK K
  rw [HQ.out]
  simp only [Act.put, List.setIfInBounds_toArray, List.set_cons_zero, List.set_cons_succ]
  refine wpAnyH_step (i := 10) (by kernel_rfl) (fuel' := 2) (by kernel_rfl) (by simp only [pickOps, List.getElem?_toArray, List.getElem?_cons_zero, List.getElem?_cons_succ]; rfl) (by rfl) ?_
  intro K hK
  go_simp
  have S6 : Lays wl.drew (wl.alloc (.cells #[.int .i64 p, .int .i64 q] 3)).drew := ⟨0, #[_], by first | rfl | (rw [alloc_eq_grow]; rfl)⟩
  refine hK _ _ S6 ?_
  clear hK K
  have hz : (wl.alloc (.cells #[.int .i64 p, .int .i64 q] 3)).drew.rangeAt wl.heap.size 0 [.int .i64 p, .int .i64 q] := range_new wl [.int .i64 p, .int .i64 q] 3
  obtain ⟨w6, hw6⟩ : ∃ y, y = (wl.alloc (.cells #[.int .i64 p, .int .i64 q] 3)).drew := ⟨_, rfl⟩
  rw [← hw6] at hz S6 ⊢
  clear hw6
  have h0 := hz 0 _ rfl
  have h1 := hz 1 _ rfl
  simp only [Nat.zero_add] at h0 h1
  refine wpAnyH_step (i := 11) (by kernel_rfl) (fuel' := 1) (by kernel_rfl) (by simp only [pickOps, List.getElem?_toArray, List.getElem?_cons_zero, List.getElem?_cons_succ]; rfl) (by rfl) ?_
  intro K hK
  refine wp_call 47 #[.slice (some ⟨wl.heap.size, 0, none⟩) 2 2] (by go_simp; first | done | rfl) ?_
  refine (or_any _ p q _ h0 h1).mono ?_
  rintro e w7 ⟨rfl, l7⟩
  have S7 := S6.trans l7
  refine ⟨_, rfl, hK _ _ S7 ?_⟩
  clear hK K
  simp only [Act.put, List.setIfInBounds_toArray, List.set_cons_zero, List.set_cons_succ]
  refine wpAnyH_takes (fun _ _ _ _ _ h => h) S7 [12] (fuel' := 0) (by kernel_rfl) (by kernel_rfl) (by simp only [pickOps, List.getElem?_toArray, List.getElem?_cons_zero, List.getElem?_cons_succ]; rfl) ?_
  repeat (first
    | (refine TakeP.pure (v := ?_) (by rfl) ?_ ?_; rotate_left; (intro w' g'; go_simp; first | done | with_reducible rfl); (simp only [Act.put, List.setIfInBounds_toArray, List.set_cons_zero, List.set_cons_succ])))
  refine TakeP.nil ?_
  refine wpAnyH_done (by kernel_rfl) ?_ _
  clear hC hz h0 h1
  go_wp2_with fail
  go_ret
  exact ⟨ret_int HC.out.symm, L2.out.trans (((Lays.refl wl).drewN 1).trans S7)⟩
end Go.Proofs.Ytaocjobbfcfleaa
