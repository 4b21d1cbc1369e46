/-
 The violations of a roster: their order, the sort.
-/
import Derived.Test.YtnnbibmmofnkdaaGreatTopA
namespace Go.Proofs.YtnnbibmmofnkdaaGreat
open Go.RowKit Go.Proofs WageMem WageReg WageRec WageSpan WageTop
open Go.Sort
def orL : List Int → Int
 | [] => 0
 | x :: r => if x = 0 then orL r else x
set_option maxRecDepth 100000 in
theorem or46 {w : World} {A : Option Addr} {n c : Nat} {l : List Int} (h : Ints w A n c l) : Calls Tryz.prog 46 #[.slice A n c] w fun e w' => e = .returned (.int .i64 (orL l)) ∧ w' = w := by
 have HI := Lib.hid h
 have HL : Hid (l.length = n) := h.1
 have n9 : n ≤ 9223372036854775807 := Nat.le_trans h.2.1 h.2.2.1
 obtain ⟨z, hz⟩ : ∃ z, orL l = z := ⟨_, rfl⟩
 rw [hz]
 have HZ0 : Hid (orL (l.drop 0) = z) := hz
 clear h hz
 go_enter Tryz.func46, Tryz.ntmps46
 go_wp2_with fail
 go_loopw [8] (fun i y => ∃ k : Nat, k ≤ n ∧ i = .int .i64 k ∧ Hid (orL (l.drop k) = z) ∧ y = w) (fun i _ => n - (intOf i).toNat)
 case atStart => exact ⟨0, Nat.zero_le _, rfl, HZ0.out, rfl⟩
 case round =>
  clear HZ0
  obtain ⟨k, hk, rfl, HZ, hy⟩ := hrel
  subst hy
  by_cases hlt : k < n
  ·obtain ⟨b, o, hA, hcc⟩ := HI.out.at_ (by omega)
   obtain ⟨x, hx⟩ : ∃ x, l[k]? = some x := ⟨_, List.getElem?_eq_getElem (by rw [HL.out]; exact hlt)⟩
   have c0 := hcc k _ hx
   have HS : Hid ((if x = 0 then orL (l.drop (k + 1)) else x) = z) := by
    have h1 := HZ.out
    rw [drop_at' hx] at h1
    exact h1
   have e1 : (0 : Int) ≤ (k : Int) := by omega
   have e2 : (k : Int) < (n : Int) := by omega
   subst hA
   clear hcc hx HZ
   by_cases h0 : x = 0
   ·have HS2 : Hid (orL (l.drop (k + 1)) = z) := by have h1 := HS.out; rw [if_pos h0] at h1; exact h1
    subst h0
    clear HS
    go_wp2_with fail
    go_roundw
    case rel => exact ⟨k + 1, by omega, by go_num, HS2.out, trivial⟩
    case measure => simp [intOf]; omega
   ·have HS2 : Hid (x = z) := by have h1 := HS.out; rw [if_neg h0] at h1; exact h1
    have q1 : (x != 0) = true := by simpa using h0
    have q2 : (x == 0) = false := by simpa using h0
    clear HS h0
    go_wp2
    go_ret
    exact ⟨congrArg (fun b => Ending.returned (Value.int .i64 b)) HS2.out, rfl⟩
  ·obtain rfl : n = k := by omega
   have HE : Hid (0 = z) := by
    have h1 := HZ.out
    rw [List.drop_eq_nil_of_le (by rw [HL.out]; exact Nat.le_refl _)] at h1
    exact h1
   go_wp2
   go_ret
   exact ⟨congrArg (fun b => Ending.returned (Value.int .i64 b)) HE.out, rfl⟩
theorem Lays.grew {w w' : World} (h : Lays w w') : Grew w w' := by
 obtain ⟨q, os, rfl⟩ := h
 refine ⟨rfl, rfl, rfl, ?_, fun k hk => ?_⟩
 ·show w.heap.size ≤ (w.heap ++ os).size
  simp
 ·show (w.heap ++ os)[k]? = w.heap[k]?
  exact Array.getElem?_append_left hk
/-- How violations are ordered. -/
def vcmp (x y : Vi) : Int := orL [cmpI x.k y.k, cmpI x.w y.w, cmpI x.a y.a, cmpI x.b y.b]
set_option maxRecDepth 100000 in
set_option maxHeartbeats 4000000 in
theorem cmp45 (x y : Vi) (W : World) : Calls Tryz.prog 45 #[.agg #[.int .i64 x.k, .int .i64 x.w, .int .i64 x.a, .int .i64 x.b], .agg #[.int .i64 y.k, .int .i64 y.w, .int .i64 y.a, .int .i64 y.b]] W fun e w' => e = .returned (.int .i64 (vcmp x y)) ∧ Lays W w' := by
 obtain ⟨r, hr⟩ : ∃ r, vcmp x y = r := ⟨_, rfl⟩
 rw [hr]
 have HR := Lib.hid hr
 clear hr
 obtain ⟨w0, hw0⟩ : ∃ z, z = W.alloc (.cells #[.int .i64 x.k, .int .i64 x.w, .int .i64 x.a, .int .i64 x.b] 109) := ⟨_, rfl⟩
 obtain ⟨w1, hw1⟩ : ∃ z, z = w0.alloc (.cells #[.int .i64 y.k, .int .i64 y.w, .int .i64 y.a, .int .i64 y.b] 109) := ⟨_, rfl⟩
 obtain ⟨b0, hb0⟩ : ∃ z, z = W.heap.size := ⟨_, rfl⟩
 obtain ⟨b1, hb1⟩ : ∃ z, z = W.heap.size + 1 := ⟨_, rfl⟩
 have l0 : Lays W w0 := by rw [hw0]; exact (Lays.refl W).alloc _
 have l1 : Lays w0 w1 := by rw [hw1]; exact (Lays.refl w0).alloc _
 have s0 : w0.heap.size = W.heap.size + 1 := by rw [hw0]; simp
 have X0 : Blk w1 b0 109 [.int .i64 x.k, .int .i64 x.w, .int .i64 x.a, .int .i64 x.b] := by have h : Blk w0 b0 109 [.int .i64 x.k, .int .i64 x.w, .int .i64 x.a, .int .i64 x.b] := by { rw [hw0, hb0]; exact Blk.new W 109 [.int .i64 x.k, .int .i64 x.w, .int .i64 x.a, .int .i64 x.b] }; exact h.grew l1.grew
 have Y0 : Blk w1 b1 109 [.int .i64 y.k, .int .i64 y.w, .int .i64 y.a, .int .i64 y.b] := by rw [hw1, hb1, ← s0]; exact Blk.new w0 109 [.int .i64 y.k, .int .i64 y.w, .int .i64 y.a, .int .i64 y.b]
 have HL := Lib.hid (l0.trans l1)
 have hA : ∀ w', Lays w1.drew w' → (w'.cell? ⟨b0, 0, none⟩ = some (.int .i64 x.k) ∧ w'.cell? ⟨b0, 1, none⟩ = some (.int .i64 x.w) ∧ w'.cell? ⟨b0, 2, none⟩ = some (.int .i64 x.a) ∧ w'.cell? ⟨b0, 3, none⟩ = some (.int .i64 x.b)) ∧ w'.cell? ⟨b1, 0, none⟩ = some (.int .i64 y.k) ∧ w'.cell? ⟨b1, 1, none⟩ = some (.int .i64 y.w) ∧ w'.cell? ⟨b1, 2, none⟩ = some (.int .i64 y.a) ∧ w'.cell? ⟨b1, 3, none⟩ = some (.int .i64 y.b) := fun w' g' => by
  have gg := (Lays.refl w1).drew.trans g'
  exact ⟨⟨gg.cell (X0.cell rfl), gg.cell (X0.cell rfl), gg.cell (X0.cell rfl), gg.cell (X0.cell rfl)⟩, gg.cell (Y0.cell rfl), gg.cell (Y0.cell rfl), gg.cell (Y0.cell rfl), gg.cell (Y0.cell rfl)⟩
 have HA := Lib.hid hA
 clear l0 l1 s0 X0 Y0 hA
 go_enter Tryz.func45, Tryz.ntmps45
 go_upto_region 1 with (fail)
 rw [← hw0, ← hw1, ← hb1, ← hb0]
 clear hw0 hw1 hb1 hb0
 refine wp_region_G (G := Lays) (by kernel_rfl) Lays.refl 23 ?_
 refine wpAnyG_takes Lays.refl (fun _ _ _ => Lays.trans) (fun _ _ _ _ _ h => h) (List.range 20) (fuel' := 3) (by kernel_rfl) (by kernel_rfl) (by simp only [show List.range 20 = [0, 1, 2, 3, 4, 5, 6, 7, 8, 9, 10, 11, 12, 13, 14, 15, 16, 17, 18, 19] from rfl, pickOps, ugT, ug0, ug1]; rfl) ?_
 repeat (first
  | (refine TakeAll.pure (v := ?_) (by rfl) ?_ ?_; rotate_left; (intro w' g'; obtain ⟨⟨q0, q1, q2, q3⟩, q4, q5, q6, q7⟩ := HA.out w' g'; go_simp; first | done | with_reducible rfl); (simp only [Act.put, uzT, uz0, uz1]))
  | (refine TakeAll.call (by rfl) 47 _ (fun _ => by go_simp; first | done | rfl) (fun w' g' => (compare_any x.k y.k w').mono fun e w1 h => ⟨h.1, by rw [← h.2]; exact Lays.refl _⟩) ?_; (simp only [Act.put, uzT, uz0, uz1]))
  | (refine TakeAll.call (by rfl) 47 _ (fun _ => by go_simp; first | done | rfl) (fun w' g' => (compare_any x.w y.w w').mono fun e w1 h => ⟨h.1, by rw [← h.2]; exact Lays.refl _⟩) ?_; (simp only [Act.put, uzT, uz0, uz1]))
  | (refine TakeAll.call (by rfl) 47 _ (fun _ => by go_simp; first | done | rfl) (fun w' g' => (compare_any x.a y.a w').mono fun e w1 h => ⟨h.1, by rw [← h.2]; exact Lays.refl _⟩) ?_; (simp only [Act.put, uzT, uz0, uz1]))
  | (refine TakeAll.call (by rfl) 47 _ (fun _ => by go_simp; first | done | rfl) (fun w' g' => (compare_any x.b y.b w').mono fun e w1 h => ⟨h.1, by rw [← h.2]; exact Lays.refl _⟩) ?_; (simp only [Act.put, uzT, uz0, uz1])))
 refine TakeAll.nil ?_
 clear HA
 refine wpAnyG_stepW (i := 20) (by kernel_rfl) (fuel' := 2) (by kernel_rfl) (by simp only [pickOps, ugT, ug0, ug1]; rfl) (by rfl) ?_
 intro w3 g3 K hK
 go_simp
 refine hK _ _ ((Lays.refl w3).alloc _) ?_
 clear hK K
 try simp only [Act.put, uzT, uz0, uz1]
 obtain ⟨wy, hwy⟩ : ∃ z, z = w3.alloc (.cells #[.int .i64 (cmpI x.k y.k), .int .i64 (cmpI x.w y.w), .int .i64 (cmpI x.a y.a), .int .i64 (cmpI x.b y.b)] 3) := ⟨_, rfl⟩
 obtain ⟨b5, hb5⟩ : ∃ z, z = w3.heap.size := ⟨_, rfl⟩
 have BI : Hid (Ints wy (some ⟨b5, 0, none⟩) 4 4 [cmpI x.k y.k, cmpI x.w y.w, cmpI x.a y.a, cmpI x.b y.b]) := by unfold Hid; rw [hwy, hb5]; exact ⟨rfl, builtS (w := w3) (t := 3) 1 4 #[.int .i64 (cmpI x.k y.k), .int .i64 (cmpI x.w y.w), .int .i64 (cmpI x.a y.a), .int .i64 (cmpI x.b y.b)] _ rfl rfl (by decide)⟩
 have HLy : Hid (Lays W wy) := by unfold Hid; rw [hwy]; exact (HL.out.trans ((Lays.refl w1).drew.trans g3)).alloc _
 rw [← hwy, ← hb5]
 clear hwy hb5 g3 HL
 refine wpAnyG_stepW (i := 21) (by kernel_rfl) (fuel' := 1) (by kernel_rfl) (by simp only [pickOps, ugT, ug0, ug1]; rfl) (by rfl) ?_
 intro w5 g5 K hK
 refine wp_call 46 _ (by go_simp; first | done | rfl) ?_
 refine (or46 (BI.out.grew g5.grew)).mono ?_
 rintro e w6 ⟨rfl, rfl⟩
 refine ⟨_, rfl, hK _ _ (Lays.refl _) ?_⟩
 clear hK K
 try simp only [Act.put, uzT, uz0, uz1]
 refine wpAnyG_takes Lays.refl (fun _ _ _ => Lays.trans) (fun _ _ _ _ _ h => h) [22] (fuel' := 0) (by kernel_rfl) (by kernel_rfl) (by simp only [pickOps, ugT, ug0, ug1]; rfl) ?_
 (refine TakeAll.pure (v := ?_) (by rfl) ?_ ?_; rotate_left; (intro w' g'; go_simp; first | done | with_reducible rfl); (simp only [Act.put, uzT, uz0, uz1]))
 refine TakeAll.nil ?_
 refine wpAnyG_done (by kernel_rfl) ?_ _
 intro w7 g7
 have HE := Lib.hid (HLy.out.trans (g5.trans g7))
 clear g5 g7 BI HLy
 go_wp2
 go_ret
 exact ⟨congrArg (fun b => Ending.returned (Value.int .i64 b)) HR.out, HE.out⟩
def vlt (x y : Vi) : Prop := x.k < y.k ∨ (x.k = y.k ∧ (x.w < y.w ∨ (x.w = y.w ∧ (x.a < y.a ∨ (x.a = y.a ∧ x.b < y.b)))))
theorem cmpI_cases (a b : Int) : (a < b ∧ cmpI a b = -1) ∨ (b < a ∧ cmpI a b = 1) ∨ (a = b ∧ cmpI a b = 0) := by
 unfold cmpI
 by_cases h1 : a < b
 ·exact .inl ⟨h1, by rw [if_pos h1]⟩
 ·by_cases h2 : b < a
  ·exact .inr (.inl ⟨h2, by rw [if_neg h1, if_pos h2]⟩)
  ·exact .inr (.inr ⟨by omega, by rw [if_neg h1, if_neg h2]⟩)
theorem vcmp_lt (x y : Vi) : ltOf vcmp x y = true ↔ vlt x y := by
 unfold ltOf vcmp vlt
 rw [decide_eq_true_eq]
 simp only [orL]
 rcases cmpI_cases x.k y.k with ⟨h1, e1⟩ | ⟨h1, e1⟩ | ⟨h1, e1⟩ <;> rw [e1]
 ·simp; omega
 ·simp; omega
 rw [if_pos rfl]
 rcases cmpI_cases x.w y.w with ⟨h2, e2⟩ | ⟨h2, e2⟩ | ⟨h2, e2⟩ <;> rw [e2]
 ·simp; omega
 ·simp; omega
 rw [if_pos rfl]
 rcases cmpI_cases x.a y.a with ⟨h3, e3⟩ | ⟨h3, e3⟩ | ⟨h3, e3⟩ <;> rw [e3]
 ·simp; omega
 ·simp; omega
 rw [if_pos rfl]
 rcases cmpI_cases x.b y.b with ⟨h4, e4⟩ | ⟨h4, e4⟩ | ⟨h4, e4⟩ <;> rw [e4]
 ·simp; omega
 ·simp; omega
 ·simp; omega
theorem swo_v : SWO (ltOf vcmp) where
 irrefl x := by
  cases h : ltOf vcmp x x with
  | false => rfl
  | true => rw [vcmp_lt] at h; unfold vlt at h; omega
 trans x y z h1 h2 := by
  rw [vcmp_lt] at *
  unfold vlt at *
  omega
 ntrans x y z h1 h2 := by
  have h1' : ¬ vlt x y := fun h => by rw [(vcmp_lt x y).2 h] at h1; cases h1
  have h2' : ¬ vlt y z := fun h => by rw [(vcmp_lt y z).2 h] at h2; cases h2
  cases h : ltOf vcmp x z with
  | false => rfl
  | true =>
   rw [vcmp_lt] at h
   unfold vlt at *
   omega
end Go.Proofs.YtnnbibmmofnkdaaGreat
