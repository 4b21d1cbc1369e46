/-
 The statements' helpers: Same, Short, Count, tiny.
-/
import Derived.Test.YtnnbibmmofnkdaaGreatRefN
import Derived.Test.YtnnbibmmofnkdaaGreatRpl
import Derived.Test.YtnnbibmmofnkdaaGreatArgP
namespace Go.Proofs.YtnnbibmmofnkdaaGreat
open Go.RowKit Go.Proofs WageMem WageReg WageRec WageSpan WageTop
theorem take_next {xs ys : List Int} {k : Nat} {x : Int} (hx : xs[k]? = some x) (hy : ys[k]? = some x) (h : xs.take k = ys.take k) : xs.take (k + 1) = ys.take (k + 1) := by
 rw [List.take_add_one, List.take_add_one, hx, hy, h]
set_option maxRecDepth 100000 in
theorem same15 {w : World} {A B : Option Addr} {n c m d : Nat} {xs ys : List Int} {t : Bool} (h1 : Ints w A n c xs) (h2 : Ints w B m d ys) (ht : decide (xs = ys) = t) :
  Calls Tryz.prog 15 #[.slice A n c, .slice B m d] w fun e w' => e = .returned (.bool t) ∧ Grew w w' := by
 have H1 := Lib.hid h1
 have H2 := Lib.hid h2
 have L1 : Hid (xs.length = n) := h1.1
 have L2 : Hid (ys.length = m) := h2.1
 have HT := Lib.hid ht
 have n9 : n ≤ 9223372036854775807 := Nat.le_trans h1.2.1 h1.2.2.1
 clear h1 h2 ht
 go_enter Tryz.func15, Tryz.ntmps15
 by_cases hnm : n = m
 ·subst hnm
  go_wp2_with fail
  go_loopw [5] (fun i y => ∃ k : Nat, k ≤ n ∧ i = .int .i64 k ∧ Hid (xs.take k = ys.take k) ∧ Grew w y) (fun i _ => n - (intOf i).toNat)
  case atStart => exact ⟨0, Nat.zero_le _, rfl, rfl, Grew.refl _⟩
  case round =>
   obtain ⟨k, hk, rfl, HZ, hR⟩ := hrel
   have HR := Lib.hid hR
   clear hR
   by_cases hlt : k < n
   ·obtain ⟨b, o, hA, hcc⟩ := (H1.out.grew HR.out).at_ (by omega)
    obtain ⟨b', o', hB, hdd⟩ := (H2.out.grew HR.out).at_ (by omega)
    obtain ⟨x, hx⟩ : ∃ x, xs[k]? = some x := ⟨_, List.getElem?_eq_getElem (by rw [L1.out]; exact hlt)⟩
    obtain ⟨y, hy⟩ : ∃ x, ys[k]? = some x := ⟨_, List.getElem?_eq_getElem (by rw [L2.out]; exact hlt)⟩
    have c0 := hcc k _ hx
    have d0 := hdd k _ hy
    have HX := Lib.hid hx
    have HY := Lib.hid hy
    have e1 : (0 : Int) ≤ (k : Int) := by omega
    have e2 : (k : Int) < (n : Int) := by omega
    have hC : ∀ w', Grew wr.drew w' → w'.cell? ⟨b, o + k, none⟩ = some (.int .i64 x) ∧ w'.cell? ⟨b', o' + k, none⟩ = some (.int .i64 y) := fun w' g' => by
     have gg := (Grew.refl wr).drew.trans g'
     exact ⟨gg.cell c0, gg.cell d0⟩
    have HC := Lib.hid hC
    subst hA hB
    clear hcc hdd hx hy c0 d0 hC
    by_cases hxy : x = y
    ·have q : (x == y) = true := by simp; omega
     have qn : (x != y) = false := by simp; omega
     subst hxy
     have HZ2 := Lib.hid (take_next HX.out HY.out HZ.out)
     clear HZ
     go_upto_region 6 with (fail)
     refine wp_region_seq (by kernel_rfl) Grew.refl (fun _ _ _ => Grew.trans) (fun _ _ _ _ _ h => h) (by kernel_rfl) ?_
     repeat (first
      | (refine TakeAll.pure (v := ?_) (by rfl) ?_ ?_; rotate_left; (intro w' g'; obtain ⟨q_0, q_1⟩ := HC.out w' g'; go_simp; first | done | with_reducible rfl); (simp only [Act.put, uzT, uz0, uz1]))
      | (refine TakeAll.skip (by rfl) ?_; (simp only [Act.put, uzT, uz0, uz1])))
     refine TakeAll.nil ?_
     intro w5 g5
     have G5 := HR.out.trans ((Grew.refl wr).drew.trans g5)
     clear g5 HC HR HX HY
     go_wp2_with fail
     go_roundw
     case rel => exact ⟨k + 1, by omega, by go_num, HZ2, G5⟩
     case measure => simp [intOf]; omega
    ·have q : (x == y) = false := by simp; omega
     have qn : (x != y) = true := by simp; omega
     have HF : Hid (false = t) := by
      unfold Hid
      rw [← HT.out]
      refine (decide_eq_false fun h => hxy ?_).symm
      have h3 := HX.out
      rw [h, HY.out] at h3
      injection h3 with h3
      exact h3.symm
     clear hxy
     go_upto_region 6 with (fail)
     refine wp_region_seq (by kernel_rfl) Grew.refl (fun _ _ _ => Grew.trans) (fun _ _ _ _ _ h => h) (by kernel_rfl) ?_
     repeat (first
      | (refine TakeAll.pure (v := ?_) (by rfl) ?_ ?_; rotate_left; (intro w' g'; obtain ⟨q_0, q_1⟩ := HC.out w' g'; go_simp; first | done | with_reducible rfl); (simp only [Act.put, uzT, uz0, uz1]))
      | (refine TakeAll.skip (by rfl) ?_; (simp only [Act.put, uzT, uz0, uz1])))
     refine TakeAll.nil ?_
     intro w5 g5
     have G5 := HR.out.trans ((Grew.refl wr).drew.trans g5)
     clear g5 HC HR HX HY
     go_wp2
     go_ret
     exact ⟨congrArg (fun b => Ending.returned (Value.bool b)) HF.out, G5⟩
   ·obtain rfl : n = k := by omega
    have HF : Hid (true = t) := by
     unfold Hid
     rw [← HT.out]
     have h3 := HZ.out
     rw [List.take_of_length_le (by rw [L1.out]; exact Nat.le_refl _), List.take_of_length_le (by rw [L2.out]; exact Nat.le_refl _)] at h3
     exact (decide_eq_true h3).symm
    go_wp2
    go_ret
    exact ⟨congrArg (fun b => Ending.returned (Value.bool b)) HF.out, HR.out⟩
 ·have q : (n == m) = false := by simp; omega
  have qn : (n != m) = true := by simp; omega
  have r : ((n : Int) == (m : Int)) = false := by simp; omega
  have rn : ((n : Int) != (m : Int)) = true := by simp; omega
  have HF : Hid (false = t) := by
   unfold Hid
   rw [← HT.out]
   refine (decide_eq_false fun h => hnm ?_).symm
   rw [← L1.out, ← L2.out, h]
  clear hnm
  go_wp2
  go_ret
  exact ⟨congrArg (fun b => Ending.returned (Value.bool b)) HF.out, Grew.refl _⟩
set_option maxRecDepth 100000 in
theorem count21 {w : World} {p : Pl} (hd : p.dn ≤ 24) (hw : p.wn ≤ 4) :
  Calls Tryz.prog 21 #[planV p, .int .i64 300] w fun e w' => ∃ r : Int, e = .returned (.int .i64 r) ∧ (0 ≤ r ∧ r ≤ 301 ∧ (0 < p.wn → 0 < r)) ∧ Grew w w' := by
 show Calls Tryz.prog 21 #[.agg #[.string p.nm, .int .i64 p.zb, .slice p.C p.cn p.cc, .slice p.D p.dn p.dc, .slice p.W p.wn p.wc, .int .i64 p.lm.rest, .int .i64 p.lm.week, .int .i64 p.lm.nf, .int .i64 p.lm.nt, .int .i64 p.lm.mn], .int .i64 300] w _
 obtain ⟨w1, hw1⟩ : ∃ y, y = w.alloc (.cells #[.string p.nm, .int .i64 p.zb, .slice p.C p.cn p.cc, .slice p.D p.dn p.dc, .slice p.W p.wn p.wc, .int .i64 p.lm.rest, .int .i64 p.lm.week, .int .i64 p.lm.nf, .int .i64 p.lm.nt, .int .i64 p.lm.mn] 32) := ⟨_, rfl⟩
 obtain ⟨tb, htb⟩ : ∃ z, z = w.heap.size := ⟨_, rfl⟩
 have g1 : Grew w w1 := by rw [hw1]; exact (Grew.refl w).alloc _
 have X1 : Hid (Blk w1 tb 32 (planC p)) := by unfold Hid; rw [hw1, htb]; exact Blk.new w 32 (planC p)
 go_enter Tryz.func21, Tryz.ntmps21
 go_upto_region 1 with (fail)
 rw [← hw1, ← htb]
 clear hw1 htb
 have v3 : w1.cell? ⟨tb, 3, none⟩ = some (.slice p.D p.dn p.dc) := X1.out.cell rfl
 have v4 : w1.cell? ⟨tb, 4, none⟩ = some (.slice p.W p.wn p.wc) := X1.out.cell rfl
 go_wp2_with fail
 go_loopw [5, 6] (fun s i y => ∃ (k : Nat) (N : Int), k ≤ p.dn ∧ i = .int .i64 k ∧ s = .int .i64 N ∧ (0 ≤ N ∧ N ≤ 1200 ∧ (0 < p.wn → 0 < N)) ∧ y = w1) (fun _ i _ => p.dn - (intOf i).toNat)
 case atStart => exact ⟨0, 1, Nat.zero_le _, rfl, rfl, ⟨by omega, by omega, fun _ => by omega⟩, rfl⟩
 case round =>
  obtain ⟨k, N, hk, rfl, rfl, ⟨hN0, hN1, hN2⟩, hy⟩ := hrel
  subst hy
  by_cases hlt : k < p.dn
  ·by_cases h2 : N ≤ 300
   ·have q1 : decide (N ≤ 300) = true := decide_eq_true h2
    have hm0 : 0 ≤ N * (p.wn : Int) := Int.mul_nonneg hN0 (by omega)
    have hm1 : N * (p.wn : Int) ≤ 300 * 4 := Int.mul_le_mul h2 (by omega) (by omega) (by omega)
    have hm2 : 0 < p.wn → 0 < N * (p.wn : Int) := fun h => Int.mul_pos (hN2 h) (by omega)
    obtain ⟨Y, hY⟩ : ∃ z, N * (p.wn : Int) = z := ⟨_, rfl⟩
    have m1 : IntKind.i64.wrap (N * (p.wn : Int)) = Y := by rw [hY]; rw [hY] at hm0 hm1; exact IntWalk.i64_in _ (by omega)
    rw [hY] at hm0 hm1 hm2
    clear hY h2
    go_wp2_with fail
    go_roundw
    case rel => exact ⟨k + 1, Y, by omega, by go_num, rfl, ⟨hm0, by omega, hm2⟩, trivial⟩
    case measure => simp [intOf]; omega
   ·have q1 : decide (N ≤ 300) = false := decide_eq_false h2
    clear h2
    go_wp2
    go_ret
    exact ⟨_, rfl, ⟨by omega, by omega, fun h => by have := hN2 h; omega⟩, g1⟩
  ·obtain rfl : p.dn = k := by omega
   go_wp2
   go_ret
   exact ⟨_, rfl, ⟨by omega, by omega, fun h => by have := hN2 h; omega⟩, g1⟩
set_option maxRecDepth 100000 in
set_option maxHeartbeats 4000000 in
theorem tiny9 {w : World} {p : Pl} (hp : PlanAt w p) :
  Calls Tryz.prog 9 #[planV p] w fun e w' => ∃ t, e = .returned (.bool t) ∧ (t = true → planB p = true ∧ p.dn ≤ 6 ∧ p.wn ≤ 4 ∧ p.cn ≤ 20) ∧ Grew w w' := by
 have HP := Lib.hid hp
 clear hp
 show Calls Tryz.prog 9 #[.agg #[.string p.nm, .int .i64 p.zb, .slice p.C p.cn p.cc, .slice p.D p.dn p.dc, .slice p.W p.wn p.wc, .int .i64 p.lm.rest, .int .i64 p.lm.week, .int .i64 p.lm.nf, .int .i64 p.lm.nt, .int .i64 p.lm.mn]] w _
 obtain ⟨w1, hw1⟩ : ∃ y, y = w.alloc (.cells #[.string p.nm, .int .i64 p.zb, .slice p.C p.cn p.cc, .slice p.D p.dn p.dc, .slice p.W p.wn p.wc, .int .i64 p.lm.rest, .int .i64 p.lm.week, .int .i64 p.lm.nf, .int .i64 p.lm.nt, .int .i64 p.lm.mn] 32) := ⟨_, rfl⟩
 obtain ⟨tb, htb⟩ : ∃ z, z = w.heap.size := ⟨_, rfl⟩
 have g1 : Grew w w1 := by rw [hw1]; exact (Grew.refl w).alloc _
 have X1 : Hid (Blk w1 tb 32 (planC p)) := by unfold Hid; rw [hw1, htb]; exact Blk.new w 32 (planC p)
 go_enter Tryz.func9, Tryz.ntmps9
 go_upto_region 1 with (fail)
 rw [← hw1, ← htb]
 clear hw1 htb
 have v2 : w1.cell? ⟨tb, 2, none⟩ = some (.slice p.C p.cn p.cc) := X1.out.cell rfl
 have v3 : w1.cell? ⟨tb, 3, none⟩ = some (.slice p.D p.dn p.dc) := X1.out.cell rfl
 have v4 : w1.cell? ⟨tb, 4, none⟩ = some (.slice p.W p.wn p.wc) := X1.out.cell rfl
 by_cases h1 : p.dn ≤ 6
 ·have r : decide ((p.dn : Int) > 6) = false := decide_eq_false (by omega)
  have r' : decide ((6 : Int) < (p.dn : Int)) = false := decide_eq_false (by omega)
  have r'' : decide (6 < p.dn) = false := decide_eq_false (by omega)
  by_cases h2 : p.wn ≤ 4
  ·have s : decide ((p.wn : Int) > 4) = false := decide_eq_false (by omega)
   have s' : decide ((4 : Int) < (p.wn : Int)) = false := decide_eq_false (by omega)
   have s'' : decide (4 < p.wn) = false := decide_eq_false (by omega)
   by_cases h3 : p.cn ≤ 20
   ·have q : decide ((p.cn : Int) > 20) = false := decide_eq_false (by omega)
    have q' : decide ((20 : Int) < (p.cn : Int)) = false := decide_eq_false (by omega)
    have q'' : decide (20 < p.cn) = false := decide_eq_false (by omega)
    go_wp2_with fail
    clear r r' r'' s s' s'' q q' q'' v2 v3 v4
    go_loopw [3] (fun i y => ∃ k : Nat, k ≤ p.wn ∧ i = .int .i64 k ∧ y = w1) (fun i _ => p.wn - (intOf i).toNat)
    case atStart => exact ⟨0, Nat.zero_le _, rfl, rfl⟩
    case round =>
     obtain ⟨k, hk, rfl, hy⟩ := hrel
     subst hy
     by_cases hlt : k < p.wn
     ·obtain ⟨bw, ow, x, hA, hx, hxc, hsp, _⟩ := (HP.out.grew g1).ws.at_ hlt
      have c4 : wr.cell? ⟨tb, 4, none⟩ = some (.slice (some ⟨bw, ow, none⟩) p.wn p.wc) := by rw [← hA]; exact X1.out.cell rfl
      have x4 := hxc.2.2.2.2
      have e1 : (0 : Int) ≤ (k : Int) := by omega
      have e2 : (k : Int) < (p.wn : Int) := by omega
      clear hA hx hxc hsp
      by_cases h4 : x.n ≤ 20
      ·have r : decide ((x.n : Int) > 20) = false := decide_eq_false (by omega)
       have r' : decide ((20 : Int) < (x.n : Int)) = false := decide_eq_false (by omega)
       have r'' : decide (20 < x.n) = false := decide_eq_false (by omega)
       clear h4
       go_wp2_with fail
       go_roundw
       case rel => exact ⟨k + 1, by omega, by go_num, trivial⟩
       case measure => simp [intOf]; omega
      ·have r : decide ((x.n : Int) > 20) = true := decide_eq_true (by omega)
       have r' : decide ((20 : Int) < (x.n : Int)) = true := decide_eq_true (by omega)
       have r'' : decide (20 < x.n) = true := decide_eq_true (by omega)
       clear h4
       go_wp2
       go_ret
       exact ⟨false, rfl, (fun h => by cases h), g1⟩
     ·obtain rfl : p.wn = k := by omega
      have v0 : wr.cell? ⟨tb, 0, none⟩ = some (.string p.nm) := (X1.out).cell rfl
      have v1 : wr.cell? ⟨tb, 1, none⟩ = some (.int .i64 p.zb) := (X1.out).cell rfl
      have v2 : wr.cell? ⟨tb, 2, none⟩ = some (.slice p.C p.cn p.cc) := (X1.out).cell rfl
      have v3 : wr.cell? ⟨tb, 3, none⟩ = some (.slice p.D p.dn p.dc) := (X1.out).cell rfl
      have c4 : wr.cell? ⟨tb, 4, none⟩ = some (.slice p.W p.wn p.wc) := (X1.out).cell rfl
      have v5 : wr.cell? ⟨tb, 5, none⟩ = some (.int .i64 p.lm.rest) := (X1.out).cell rfl
      have v6 : wr.cell? ⟨tb, 6, none⟩ = some (.int .i64 p.lm.week) := (X1.out).cell rfl
      have v7 : wr.cell? ⟨tb, 7, none⟩ = some (.int .i64 p.lm.nf) := (X1.out).cell rfl
      have v8 : wr.cell? ⟨tb, 8, none⟩ = some (.int .i64 p.lm.nt) := (X1.out).cell rfl
      have v9 : wr.cell? ⟨tb, 9, none⟩ = some (.int .i64 p.lm.mn) := (X1.out).cell rfl
      go_wp2_with fail
      refine (rv24 p wr (HP.out.grew g1)).mono ?_
      rintro r w2 ⟨b, rfl, hb, g2⟩
      have HX2 := Lib.hid (X1.out.grew g2)
      have HG2 := Lib.hid (g1.trans g2)
      clear v0 v1 v2 v3 c4 v5 v6 v7 v8 v9 g2
      cases b with
      | false =>
       go_wp2
       go_ret
       exact ⟨false, rfl, (fun h => by cases h), HG2.out⟩
      | true =>
       have HOK := Lib.hid (hb rfl)
       have v0 : w2.cell? ⟨tb, 0, none⟩ = some (.string p.nm) := HX2.out.cell rfl
       have v1 : w2.cell? ⟨tb, 1, none⟩ = some (.int .i64 p.zb) := HX2.out.cell rfl
       have v2 : w2.cell? ⟨tb, 2, none⟩ = some (.slice p.C p.cn p.cc) := HX2.out.cell rfl
       have v3 : w2.cell? ⟨tb, 3, none⟩ = some (.slice p.D p.dn p.dc) := HX2.out.cell rfl
       have v4 : w2.cell? ⟨tb, 4, none⟩ = some (.slice p.W p.wn p.wc) := HX2.out.cell rfl
       have v5 : w2.cell? ⟨tb, 5, none⟩ = some (.int .i64 p.lm.rest) := HX2.out.cell rfl
       have v6 : w2.cell? ⟨tb, 6, none⟩ = some (.int .i64 p.lm.week) := HX2.out.cell rfl
       have v7 : w2.cell? ⟨tb, 7, none⟩ = some (.int .i64 p.lm.nf) := HX2.out.cell rfl
       have v8 : w2.cell? ⟨tb, 8, none⟩ = some (.int .i64 p.lm.nt) := HX2.out.cell rfl
       have v9 : w2.cell? ⟨tb, 9, none⟩ = some (.int .i64 p.lm.mn) := HX2.out.cell rfl
       go_wp2_with fail
       refine (count21 (w := w2) (p := p) (by omega) h2).mono ?_
       rintro r w3 ⟨N, rfl, _, g3⟩
       have HG3 := Lib.hid (HG2.out.trans g3)
       clear g3
       go_wp2
       go_ret
       exact ⟨_, rfl, fun _ => ⟨HOK.out, h1, h2, h3⟩, HG3.out⟩
   ·have q : decide ((p.cn : Int) > 20) = true := decide_eq_true (by omega)
    have q' : decide ((20 : Int) < (p.cn : Int)) = true := decide_eq_true (by omega)
    have q'' : decide (20 < p.cn) = true := decide_eq_true (by omega)
    go_wp2
    go_ret
    exact ⟨false, rfl, (fun h => by cases h), g1⟩
  ·have s : decide ((p.wn : Int) > 4) = true := decide_eq_true (by omega)
   have s' : decide ((4 : Int) < (p.wn : Int)) = true := decide_eq_true (by omega)
   have s'' : decide (4 < p.wn) = true := decide_eq_true (by omega)
   go_wp2
   go_ret
   exact ⟨false, rfl, (fun h => by cases h), g1⟩
 ·have r : decide ((p.dn : Int) > 6) = true := decide_eq_true (by omega)
  have r' : decide ((6 : Int) < (p.dn : Int)) = true := decide_eq_true (by omega)
  have r'' : decide (6 < p.dn) = true := decide_eq_true (by omega)
  go_wp2
  go_ret
  exact ⟨false, rfl, (fun h => by cases h), g1⟩
end Go.Proofs.YtnnbibmmofnkdaaGreat
