/-
  How orders are compared: cmp.Compare, Open$1, Open$2, by$1.
-/
import Derived.Test.YtjpnodmcglcihaaRecord
import Derived.Test.YtjpnodmcglcihaaOpenP
import Derived.Sort.Grow
namespace Go.Proofs.Ytjpnodmcglcihaa
open Go.RowKit Go.Proofs WageMem WageOrd WageRec WageMap WageReg Go.Sort

def cmpI (x y : Int) : Int := if x < y then -1 else if y < x then 1 else 0
theorem isNaN_any (x : Int) (w : World) : Calls Try.prog 35 #[.int .i64 x] w fun e w' => e = .returned (.bool false) ∧ w = w' := by
  have t : (x != x) = false := by simp
  go_enter Try.func35, Try.ntmps35
  go_wp2
  go_ret
  exact ⟨rfl, rfl⟩
theorem compare_any (x y : Int) (w : World) : Calls Try.prog 27 #[.int .i64 x, .int .i64 y] w fun e w' => e = .returned (.int .i64 (cmpI x y)) ∧ w = w' := by
  have hc : (decide (x < y) = true ∧ cmpI x y = -1) ∨ (decide (x < y) = false ∧ decide (y < x) = true ∧ cmpI x y = 1) ∨ (decide (x < y) = false ∧ decide (y < x) = false ∧ cmpI x y = 0) := by
    unfold cmpI
    by_cases h1 : x < y
    · exact .inl ⟨decide_eq_true h1, by rw [if_pos h1]⟩
    · by_cases h2 : y < x
      · exact .inr (.inl ⟨decide_eq_false h1, decide_eq_true h2, by rw [if_neg h1, if_pos h2]⟩)
      · exact .inr (.inr ⟨decide_eq_false h1, decide_eq_false h2, by rw [if_neg h1, if_neg h2]⟩)
  rcases hc with ⟨h1, h2⟩ | ⟨h1, h2, h3⟩ | ⟨h1, h2, h3⟩
  · rw [h2]
    clear h2
    go_enter Try.func27, Try.ntmps27
    go_wp2_with (go_at_call 35; refine (isNaN_any _ _).mono ?_; rintro e w' ⟨rfl, rfl⟩)
    go_ret
    exact ⟨rfl, rfl⟩
  · rw [h3]
    clear h3
    go_enter Try.func27, Try.ntmps27
    go_wp2_with (go_at_call 35; refine (isNaN_any _ _).mono ?_; rintro e w' ⟨rfl, rfl⟩)
    go_ret
    exact ⟨rfl, rfl⟩
  · rw [h3]
    clear h3
    go_enter Try.func27, Try.ntmps27
    go_wp2_with (go_at_call 35; refine (isNaN_any _ _).mono ?_; rintro e w' ⟨rfl, rfl⟩)
    go_ret
    exact ⟨rfl, rfl⟩

/-- The world has drawn and laid blocks; nothing else. -/
def Lays (w w' : World) : Prop := ∃ q os, w' = grow (w.drewN q) os
theorem Lays.refl (w : World) : Lays w w := ⟨0, #[], by rw [grow_empty]; rfl⟩
theorem Lays.alloc {w w' : World} (h : Lays w w') (o : Obj) : Lays w (w'.alloc o) := by
  obtain ⟨q, os, rfl⟩ := h
  exact ⟨q, os ++ #[o], by rw [alloc_eq_grow, grow_grow]⟩
theorem Lays.drewN {w w' : World} (h : Lays w w') (n : Nat) : Lays w (w'.drewN n) := by
  obtain ⟨q, os, rfl⟩ := h
  exact ⟨q + n, os, by rw [← World.drewN_drewN]; rfl⟩
theorem Lays.trans {a b c : World} (h : Lays a b) (k : Lays b c) : Lays a c := by
  obtain ⟨q, os, rfl⟩ := k
  obtain ⟨q1, os1, h1⟩ := h.drewN q
  rw [h1]
  exact ⟨q1, os1 ++ os, by rw [grow_grow]⟩
theorem Lays.cell {w w' : World} (h : Lays w w') {p : Addr} {v : Value} (hc : w.cell? p = some v) : w'.cell? p = some v := by
  obtain ⟨q, os, rfl⟩ := h
  obtain ⟨o, ho, _⟩ := cells_of_cell hc
  have hlt := (Array.getElem?_eq_some_iff.1 ho).1
  refine (World.cell?_of_block ?_).trans (show (w.drewN q).cell? p = some v from hc)
  show (w.heap ++ os)[p.block]? = w.heap[p.block]?
  exact Array.getElem?_append_left hlt
theorem Lays.range {w w' : World} (h : Lays w w') {b o : Nat} {cs : List Value} (hr : w.rangeAt b o cs) : w'.rangeAt b o cs := fun j u hu => h.cell (hr j u hu)

set_option maxHeartbeats 1000000 in
theorem byRank_any (x y : Ord) (w : World) : Calls Try.prog 26 #[ov x, ov y] w fun e w' => e = .returned (.int .i64 (cmpI x.r y.r)) ∧ Lays w w' := by
  show Calls Try.prog 26 #[.agg #[.int .i64 x.n, .string x.p, .string x.c, .int .i64 x.r, .int .i64 x.k, .int .i64 x.f, .int .i64 x.m, .bool x.fam], .agg #[.int .i64 y.n, .string y.p, .string y.c, .int .i64 y.r, .int .i64 y.k, .int .i64 y.f, .int .i64 y.m, .bool y.fam]] w _
  go_enter Try.func26, Try.ntmps26
  go_wp2_with (go_at_call 27; refine (compare_any _ _ _).mono ?_; rintro e w' ⟨rfl, rfl⟩)
  go_ret
  exact ⟨rfl, ((Lays.refl w).alloc _).alloc _⟩

set_option maxHeartbeats 1000000 in
theorem byNum_any (x y : Ord) (w : World) : Calls Try.prog 28 #[ov x, ov y] w fun e w' => e = .returned (.int .i64 (cmpI x.n y.n)) ∧ Lays w w' := by
  show Calls Try.prog 28 #[.agg #[.int .i64 x.n, .string x.p, .string x.c, .int .i64 x.r, .int .i64 x.k, .int .i64 x.f, .int .i64 x.m, .bool x.fam], .agg #[.int .i64 y.n, .string y.p, .string y.c, .int .i64 y.r, .int .i64 y.k, .int .i64 y.f, .int .i64 y.m, .bool y.fam]] w _
  go_enter Try.func28, Try.ntmps28
  go_wp2_with (go_at_call 27; refine (compare_any _ _ _).mono ?_; rintro e w' ⟨rfl, rfl⟩)
  go_ret
  exact ⟨rfl, ((Lays.refl w).alloc _).alloc _⟩

theorem ret_int {k : IntKind} {a b : Int} (h : a = b) : Ending.returned (.int k a) = .returned (.int k b) := by rw [h]
def cmpO (x y : Ord) : Int := if cmpI x.r y.r = 0 then cmpI x.n y.n else cmpI x.r y.r

set_option maxRecDepth 100000 in
set_option maxHeartbeats 4000000 in
theorem by_any (x y : Ord) (K S : Nat) (W : World) (hk : W.cell? ⟨K, 0, none⟩ = some (.slice (some ⟨S, 0, none⟩) 2 2)) (h0 : W.cell? ⟨S, 0, none⟩ = some (.func (.func 26) #[] #[])) (h1 : W.cell? ⟨S, 1, none⟩ = some (.func (.func 28) #[] #[])) :
    Calls Try.prog 34 #[ov x, ov y, .pointer (some ⟨K, 0, none⟩)] W fun e w' => e = .returned (.int .i64 (cmpO x y)) ∧ Lays W w' := by
  show Calls Try.prog 34 #[.agg #[.int .i64 x.n, .string x.p, .string x.c, .int .i64 x.r, .int .i64 x.k, .int .i64 x.f, .int .i64 x.m, .bool x.fam], .agg #[.int .i64 y.n, .string y.p, .string y.c, .int .i64 y.r, .int .i64 y.k, .int .i64 y.f, .int .i64 y.m, .bool y.fam], .pointer (some ⟨K, 0, none⟩)] W _
  obtain ⟨w1, hw1⟩ : ∃ z, z = (W.alloc (.cells #[.int .i64 x.n, .string x.p, .string x.c, .int .i64 x.r, .int .i64 x.k, .int .i64 x.f, .int .i64 x.m, .bool x.fam] 24)).alloc (.cells #[.int .i64 y.n, .string y.p, .string y.c, .int .i64 y.r, .int .i64 y.k, .int .i64 y.f, .int .i64 y.m, .bool y.fam] 24) := ⟨_, rfl⟩
  have l1 : Lays W w1 := by rw [hw1]; exact ((Lays.refl W).alloc _).alloc _
  have rx : Hid (w1.rangeAt W.heap.size 0 (oe x)) := by rw [hw1]; exact ((Lays.refl _).alloc _).range (range_new W (oe x) 24)
  have ry : Hid (w1.rangeAt (W.heap.size + 1) 0 (oe y)) := by
    have hs : (W.alloc (.cells #[.int .i64 x.n, .string x.p, .string x.c, .int .i64 x.r, .int .i64 x.k, .int .i64 x.f, .int .i64 x.m, .bool x.fam] 24)).heap.size = W.heap.size + 1 := by simp
    have := range_new (W.alloc (.cells #[.int .i64 x.n, .string x.p, .string x.c, .int .i64 x.r, .int .i64 x.k, .int .i64 x.f, .int .i64 x.m, .bool x.fam] 24)) (oe y) 24
    rw [hs] at this
    rw [hw1]; exact this
  have k0 := l1.cell hk
  have f0 := l1.cell h0
  have f1 := l1.cell h1
  have L1 := Lib.hid l1
  obtain ⟨a, ha⟩ : ∃ a, cmpI x.r y.r = a := ⟨_, rfl⟩
  have HA := Lib.hid ha
  have szk : K < W.heap.size := World.block_lt_of_cell? _ _ hk
  clear h0 h1 l1 ha
  go_enter Try.func34, Try.ntmps34
  go_wp2_with fail
  rw [← hw1]
  clear hw1 hk
  go_loopw [11] (fun i wr => ∃ k : Nat, k ≤ 2 ∧ i = .int .i64 k ∧ Hid (1 ≤ k → a = 0) ∧ Hid (2 ≤ k → cmpI x.n y.n = 0) ∧ Hid (Lays w1 wr)) (fun i _ => 2 - (intOf i).toNat)
  case atStart => exact ⟨0, Nat.zero_le _, rfl, fun h => absurd h (by omega), fun h => absurd h (by omega), Lays.refl _⟩
  case round =>
    obtain ⟨k, hk, rfl, Z1, Z2, LL⟩ := hrel
    have g0 := LL.out.cell f0
    have g1 := LL.out.cell f1
    obtain ⟨c0, c1, c2, c3, c4, c5, c6, c7⟩ := cells24n (LL.out.range rx.out)
    obtain ⟨d0, d1, d2, d3, d4, d5, d6, d7⟩ := cells24n (LL.out.range ry.out)
    clear f0 f1 k0
    match k, hk with
    | 0, _ =>
      by_cases hz : a = 0
      · have q : (a != 0) = false := by rw [bne_eq_false_iff_eq]; exact hz
        have HZ := Lib.hid hz
        clear hz
        go_wp2_with fail
        refine (byRank_any x y _).mono ?_
        rintro e w5 ⟨rfl, l5⟩
        have L5 := Lib.hid (LL.out.trans l5)
        rw [HA.out]
        clear l5 c0 c1 c2 c3 c4 c5 c6 c7 d0 d1 d2 d3 d4 d5 d6 d7 g0 g1
        go_wp2_with fail
        go_roundw
        case rel => exact ⟨1, by omega, by go_num, fun _ => HZ.out, fun h => absurd h (by omega), L5⟩
        case measure => simp [intOf]
      · have q : (a != 0) = true := by rw [bne_iff_ne]; exact hz
        have HC : Hid (cmpO x y = a) := by unfold Hid cmpO; rw [HA.out, if_neg hz]
        clear hz
        go_wp2_with fail
        refine (byRank_any x y _).mono ?_
        rintro e w5 ⟨rfl, l5⟩
        have L5 := Lib.hid (LL.out.trans l5)
        rw [HA.out]
        clear l5 c0 c1 c2 c3 c4 c5 c6 c7 d0 d1 d2 d3 d4 d5 d6 d7 g0 g1
        go_wp2_with fail
        go_ret
        exact ⟨ret_int HC.out.symm, L1.out.trans L5.out⟩
    | 1, _ =>
      obtain ⟨b, hb⟩ : ∃ b, cmpI x.n y.n = b := ⟨_, rfl⟩
      have HB := Lib.hid hb
      have HC : Hid (cmpO x y = b) := by unfold Hid cmpO; rw [HA.out, if_pos (Z1.out (by omega)), hb]
      clear hb
      by_cases hz : b = 0
      · have q : (b != 0) = false := by rw [bne_eq_false_iff_eq]; exact hz
        have HZ := Lib.hid hz
        clear hz
        go_wp2_with fail
        refine (byNum_any x y _).mono ?_
        rintro e w5 ⟨rfl, l5⟩
        have L5 := Lib.hid (LL.out.trans l5)
        rw [HB.out]
        clear l5 c0 c1 c2 c3 c4 c5 c6 c7 d0 d1 d2 d3 d4 d5 d6 d7 g0 g1
        go_wp2_with fail
        go_roundw
        case rel => exact ⟨2, by omega, by go_num, fun _ => Z1.out (by omega), fun _ => HB.out.trans HZ.out, L5⟩
        case measure => simp [intOf]
      · have q : (b != 0) = true := by rw [bne_iff_ne]; exact hz
        clear hz
        go_wp2_with fail
        refine (byNum_any x y _).mono ?_
        rintro e w5 ⟨rfl, l5⟩
        have L5 := Lib.hid (LL.out.trans l5)
        rw [HB.out]
        clear l5 c0 c1 c2 c3 c4 c5 c6 c7 d0 d1 d2 d3 d4 d5 d6 d7 g0 g1
        go_wp2_with fail
        go_ret
        exact ⟨ret_int HC.out.symm, L1.out.trans L5.out⟩
    | 2, _ =>
      have HC : Hid (cmpO x y = 0) := by unfold Hid cmpO; rw [HA.out, if_pos (Z1.out (by omega)), Z2.out (by omega)]
      clear c0 c1 c2 c3 c4 c5 c6 c7 d0 d1 d2 d3 d4 d5 d6 d7 g0 g1
      go_wp2_with fail
      go_ret
      exact ⟨ret_int HC.out.symm, L1.out.trans LL.out⟩
end Go.Proofs.Ytjpnodmcglcihaa
