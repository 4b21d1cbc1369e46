/-
 zone.Window.
-/
import Derived.RangeFuncNested
import Derived.RangeFuncBound
import Derived.RangeFuncCalls
import Derived.RangeFuncLeaves
import Derived.Shelf.Abstract
import Derived.Shelf.RegionOpen
import Derived.WalkKit
import Derived.OwnWalkIn
import Derived.TacticsInMore
import Derived.LoopNIn
import Derived.LoopIn
import Derived.Test.YtnnbibmmofnkdaaGreatKit
import Derived.Test.YtnnbibmmofnkdaaGreatZoneA
namespace Go.Proofs.YtnnbibmmofnkdaaGreat
open Go.RowKit Go.Shelf Go.Proofs WageMem WageReg WageRec WageSpan WageTop
attribute [local go_sem] Oper.semAt_some
theorem keepsFrom_grew {B : Nat} {A C : World} (h : Grew A C) : KeepsFrom B A C := ⟨h.le, fun _ _ _ ho _ => h.block ho⟩
theorem strG_mem {t : Int} : ∀ {ch : List (Int × Int)} {off f : Int} {pv : Option Int} {x : Int × Int × Int}, -840 ≤ off ∧ off ≤ 840 → chB off pv ch = true → x ∈ strG ch off f t → f ≤ x.1 ∧ x.1 < x.2.1 ∧ x.2.1 ≤ t ∧ -840 ≤ x.2.2 ∧ x.2.2 ≤ 840
 | [], off, f, pv, x, ho, _, hx => by
  unfold strG at hx
  split at hx
  ·rw [List.mem_singleton] at hx
   subst hx
   exact ⟨Int.le_refl _, by assumption, Int.le_refl _, ho.1, ho.2⟩
  ·cases hx
 | (a, o) :: l, off, f, pv, x, ho, hc, hx => by
  unfold chB at hc
  simp only [Bool.and_eq_true, decide_eq_true_eq] at hc
  obtain ⟨_, _, ho2, _, hc2⟩ := hc
  rw [str_cons] at hx
  split at hx
  ·rcases List.mem_cons.1 hx with rfl | hx
   ·exact ⟨Int.le_refl _, by assumption, by show min a t ≤ t; omega, ho.1, ho.2⟩
   ·have := strG_mem (f := min a t) ho2 hc2 hx
    omega
  ·exact strG_mem ho2 hc2 hx
/-- The minutes of a stretch of local time in a window, day by day, upon a number. -/
def winA (a b : Int) : Nat → Int → Int → Int → Int
 | 0, _, _, acc => acc
 | k + 1, l, e, acc => if l < e then winA a b k (min (l / 1440 * 1440 + 1440) e) e (wrap64 (acc + winF (l - l / 1440 * 1440) (min (l / 1440 * 1440 + 1440) e - l / 1440 * 1440) a b)) else acc
theorem winA_end (a b : Int) (k : Nat) {l e : Int} (acc : Int) (h : e ≤ l) : winA a b k l e acc = acc := by
 cases k with
 | zero => rfl
 | succ k => unfold winA; rw [if_neg (by omega)]
theorem winA_more (a b : Int) : ∀ (k j : Nat) (l e acc : Int), (e - l).toNat ≤ k → winA a b (k + j) l e acc = winA a b k l e acc
 | 0, j, l, e, acc, h => by rw [winA_end _ _ _ _ (by omega), winA_end _ _ _ _ (by omega)]
 | k + 1, j, l, e, acc, h => by
  rw [show k + 1 + j = (k + j) + 1 by omega]
  unfold winA
  split
  ·exact winA_more a b k j _ e _ (by omega)
  ·rfl
theorem winA_step (a b : Int) {l e acc : Int} (h : l < e) {nx : Int} (hn : nx = min (l / 1440 * 1440 + 1440) e) : winA a b (e - l).toNat l e acc = winA a b (e - nx).toNat nx e (wrap64 (acc + winF (l - l / 1440 * 1440) (nx - l / 1440 * 1440) a b)) := by
 subst hn
 obtain ⟨k, hk⟩ : ∃ k, (e - l).toNat = k + 1 := ⟨(e - l).toNat - 1, by omega⟩
 rw [hk]
 have e1 : winA a b (k + 1) l e acc = if l < e then winA a b k (min (l / 1440 * 1440 + 1440) e) e (wrap64 (acc + winF (l - l / 1440 * 1440) (min (l / 1440 * 1440 + 1440) e - l / 1440 * 1440) a b)) else acc := rfl
 rw [e1, if_pos h]
 obtain ⟨j, hj⟩ : ∃ j, k = (e - min (l / 1440 * 1440 + 1440) e).toNat + j := ⟨k - (e - min (l / 1440 * 1440 + 1440) e).toNat, by omega⟩
 rw [hj]
 exact winA_more a b _ j _ e _ (Nat.le_refl _)
def winS (a b : Int) (acc : Int) (x : Int × Int × Int) : Int := winA a b (x.2.1 - x.1).toNat (x.1 + x.2.2) (x.2.1 + x.2.2) acc
/-- What zone.Window counts. -/
def winT (z : Zn) (f e a b : Int) : Int := (strG z.ch z.base f e).foldl (winS a b) 0
/-- What holds between two rounds. -/
def WinI (a b : Int) (w3 : World) (pre : List (Int × Int × Int)) (W : World) : Prop := Boxed W w3.heap.size 3 (.int .i64 (pre.foldl (winS a b) 0)) ∧ Grew w3 W
def offT (w3 : World) (k : Nat) : Prop := k ≠ w3.heap.size ∧ k ≠ w3.heap.size + 5
set_option maxRecDepth 100000 in
set_option maxHeartbeats 8000000 in
theorem window114 (nm : ByteArray) (zb : Int) (C : Option Addr) (n c : Nat) (ch : List Sp) (f e a b : Int) (w : World) (hs : Spans w C n c ch) (hz : znB ⟨zb, ch⟩ = true)
  (hf : 0 ≤ f) (hfe : f ≤ e) (he : e ≤ 52596000) (hl : e - f ≤ 44640) (ha : 0 ≤ a ∧ a ≤ 1440) (hb : 0 ≤ b ∧ b ≤ 1440) :
  Calls Tryz.prog 114 #[.agg #[.string nm, .int .i64 zb, .slice C n c], .int .i64 f, .int .i64 e, .agg #[.int .i64 a, .int .i64 b]] w fun r w' => r = .returned (.tuple #[.int .i64 (winT ⟨zb, ch⟩ f e a b), .int .i64 0]) ∧ Grew w w' := by
 obtain ⟨ha1, ha2⟩ := ha
 obtain ⟨hb1, hb2⟩ := hb
 have HS := Lib.hid hs
 have HZ := Lib.hid hz
 clear hs hz
 refine (callsIn_wide (n := 3)).1 ?_
 refine callsIn_of_wp_marks Tryz.func114 rfl trivial ?_ rfl
 simp only [Tryz.ntmps114, List.size_toArray, List.length_cons, List.length_nil, Nat.reduceAdd, Nat.reduceSub, Array.replicate_succ, Array.replicate_zero, List.push_toArray, List.append_toArray, List.nil_append, List.cons_append]
 have g2 : Grew w ((w.alloc (.cells #[.string nm, .int .i64 zb, .slice C n c] 24)).alloc (.cells #[.int .i64 a, .int .i64 b] 28)) := ((Grew.refl w).alloc _).alloc _
 gi_wp2
 refine ⟨trivial, ?_⟩
 refine (callsIn_wide.2 (check83 (t := true) (HS.out.grew g2) ⟨by omega, by omega⟩ ⟨by omega, by omega⟩ (by rw [HZ.out, Bool.true_and]; exact decide_eq_true ⟨hf, hfe, he⟩))).mono ?_
 rintro r w3 ⟨rfl, g3⟩
 have xz := g3.block (show ((w.alloc (.cells #[.string nm, .int .i64 zb, .slice C n c] 24)).alloc (.cells #[.int .i64 a, .int .i64 b] 28)).heap[w.heap.size]? = some (.cells #[.string nm, .int .i64 zb, .slice C n c] 24) by exact ((Grew.refl _).alloc _).block (World.alloc_heap_new w _))
 have xw := g3.block (show ((w.alloc (.cells #[.string nm, .int .i64 zb, .slice C n c] 24)).alloc (.cells #[.int .i64 a, .int .i64 b] 28)).heap[w.heap.size + 1]? = some (.cells #[.int .i64 a, .int .i64 b] 28) by have := World.alloc_heap_new (w.alloc (.cells #[.string nm, .int .i64 zb, .slice C n c] 24)) (.cells #[.int .i64 a, .int .i64 b] 28); rwa [World.size_alloc] at this)
 have XZ := Lib.hid xz
 have XW := Lib.hid xw
 have G3 := g2.trans g3
 have hw3 : w.heap.size + 1 + 1 ≤ w3.heap.size := by have := g3.le; simpa using this
 have H3 := Lib.hid (HS.out.grew G3)
 have y0 : w3.cell? ⟨w.heap.size + 1, 0, none⟩ = some (.int .i64 a) := by simp [World.cell?, xw]
 have y1 : w3.cell? ⟨w.heap.size + 1, 1, none⟩ = some (.int .i64 b) := by simp [World.cell?, xw]
 have z0 : w3.cell? ⟨w.heap.size, 0, none⟩ = some (.string nm) := by simp [World.cell?, xz]
 have z1 : w3.cell? ⟨w.heap.size, 1, none⟩ = some (.int .i64 zb) := by simp [World.cell?, xz]
 have z2 : w3.cell? ⟨w.heap.size, 2, none⟩ = some (.slice C n c) := by simp [World.cell?, xz]
 have gt := (Grew.refl w3).alloc (.cells #[.int .i64 0] 3)
 have v0 := gt.cell z0
 have v1 := gt.cell z1
 have v2 := gt.cell z2
 have Y0 := Lib.hid y0
 have Y1 := Lib.hid y1
 clear g2 g3 HS xz xw gt
 gi_wp2_with (refine ⟨trivial, ?_⟩; gi_at_call 84; refine (callsIn_wide.2 (stretches84 _ _ _ _ _ _ _ _ _ rfl)).mono ?_; rintro r w' ⟨rfl, rfl⟩)
 obtain ⟨w6, hw6⟩ : ∃ y, y = (((w3.alloc (.cells #[.int .i64 0] 3)).alloc (.cells #[.string nm, .int .i64 zb, .slice C n c] 24)).alloc (.cells #[.int .i64 f] 3)).alloc (.cells #[.int .i64 e] 3) := ⟨_, rfl⟩
 have hs6 : w6.heap.size = w3.heap.size + 4 := by rw [hw6]; simp
 have g6 : Grew w3 w6 := by rw [hw6]; exact ((((Grew.refl w3).alloc _).alloc _).alloc _).alloc _
 have k9 : Boxed w6 w3.heap.size 3 (.int .i64 0) := by rw [hw6]; exact (((Boxed.new w3 3 _).alloc _).alloc _).alloc _
 have kz : w6.heap[w3.heap.size + 1]? = some (.cells #[.string nm, .int .i64 zb, .slice C n c] 24) := by
  rw [hw6]; have := (((Grew.refl _).alloc (.cells #[.int .i64 f] 3)).alloc (.cells #[.int .i64 e] 3)).block (World.alloc_heap_new (w3.alloc (.cells #[.int .i64 0] 3)) (.cells #[.string nm, .int .i64 zb, .slice C n c] 24)); rwa [World.size_alloc] at this
 have k2 : Boxed w6 (w3.heap.size + 1 + 1) 3 (.int .i64 f) := by
  rw [hw6]; have := (Boxed.new ((w3.alloc (.cells #[.int .i64 0] 3)).alloc (.cells #[.string nm, .int .i64 zb, .slice C n c] 24)) 3 (.int .i64 f)).alloc (.cells #[.int .i64 e] 3); rwa [World.size_alloc, World.size_alloc] at this
 have k3 : Boxed w6 (w3.heap.size + 1 + 1 + 1) 3 (.int .i64 e) := by
  rw [hw6]; have := Boxed.new (((w3.alloc (.cells #[.int .i64 0] 3)).alloc (.cells #[.string nm, .int .i64 zb, .slice C n c] 24)).alloc (.cells #[.int .i64 f] 3)) 3 (.int .i64 e); rwa [World.size_alloc, World.size_alloc, World.size_alloc] at this
 rw [← hw6]
 have KZ := Lib.hid kz
 have HBL : Hid (∀ b o, C = some ⟨b, o, none⟩ → 0 < n → b < w3.heap.size) := fun b o h hp => by
  obtain ⟨b', o', y, h', _, hr, _⟩ := H3.out.at_ hp
  rw [h] at h'
  injection h' with h'
  injection h' with e1 e2
  subst e1
  exact World.block_lt_of_cell? _ _ hr
 obtain ⟨hzo, hzc⟩ : (-840 ≤ zb ∧ zb ≤ 840) ∧ chB zb none ch = true := by
  have := HZ.out
  unfold znB at this
  simp only [Bool.and_eq_true, decide_eq_true_eq] at this
  exact ⟨this.2.1, this.2.2⟩
 have HZC := Lib.hid hzc
 clear hw6 y0 y1 z0 z1 z2 v0 v1 v2 kz hzc
 refine wpIn_rangeFunc_goesOnY rfl (by decide) (gf := 117) (lb := #[.pointer (some ⟨w3.heap.size + 1, 0, none⟩), .pointer (some ⟨w3.heap.size + 1 + 1 + 1, 0, none⟩), .pointer (some ⟨w3.heap.size + 1 + 1, 0, none⟩)]) rfl trivial (enters_of Tryz.func117 (by kernel_rfl) rfl) (encs := stE) (fun _ => rfl)
  (fun o1 o2 => stretch_runs 2 (w3.heap.size + 1) (w3.heap.size + 1 + 1 + 1) (w3.heap.size + 1 + 1) zb C n c ch f e (offT w3) _ (by have := (((Grew.refl w6).alloc o1).alloc o2).block KZ.out; simp [World.cell?, this]) (by have := (((Grew.refl w6).alloc o1).alloc o2).block KZ.out; simp [World.cell?, this]) ((k3.alloc o1).alloc o2).cell ((k2.alloc o1).alloc o2) (H3.out.grew ((g6.alloc o1).alloc o2))
   (by omega) (fun b o h hn => by have := HBL.out b o h hn; omega) ⟨by omega, by omega⟩ ⟨by omega, by omega⟩ (fun b o h hn => by have := HBL.out b o h hn; exact ⟨by omega, by omega⟩) (fun k hk => by simp [hs6] at hk; exact ⟨by omega, by omega⟩) (by omega) (by omega) (by omega) (by omega))
  (fun A B C h k => h.trans k) ?kb ?st (WinI a b w3) ?is ?ib ?start ?round ?done
 case kb =>
  intro W o'
  exact KeepB.put W o' (fun h => h.2 (by rw [hs6]))
 case st => exact fun A B g k o hk ho => g.2 k o (by omega) ho
 case is => exact fun s A B h g => ⟨g.2 _ _ (by omega) h.1, h.2.step g (by omega)⟩
 case ib =>
  intro s W o' _ h
  exact ⟨(World.putObj_heap_other (by omega)).trans h.1, h.2.grown (grownBy_putObj' W _ o') (fun j hj => by injection hj with hj; omega)⟩
 case start =>
  intro o1 o2
  exact ⟨(k9.alloc o1).alloc o2, (g6.alloc o1).alloc o2⟩
 case round =>
  intro l pre x W hI hsz hV hlen
  obtain ⟨hx1, hx2, hx3, hx4, hx5⟩ := strG_mem hzo HZC.out hV
  obtain ⟨hI1, hI2⟩ := hI
  obtain ⟨x0, x1, x2⟩ := x
  simp only at hx1 hx2 hx3 hx4 hx5
  obtain ⟨T, hT⟩ : ∃ T, pre.foldl (winS a b) 0 = T := ⟨_, rfl⟩
  rw [hT] at hI1
  have HT := Lib.hid hT
  have HI1 := Lib.hid hI1
  have HI2 := Lib.hid hI2
  have HS6 := Lib.hid hs6
  clear hT k9 k2 k3 hV hlen hI1 hI2 hs6
  simp only [stE]
  gi_wp2
  refine ⟨fun k o hk ho => ((Grew.refl W).alloc _).block ho, KeepB.grew ((Grew.refl W).alloc _), fun o' => ?_⟩
  have ga := (Grew.refl W).alloc (.cells #[.int .i64 x0, .int .i64 x1] 28)
  obtain ⟨Wb, hWb⟩ : ∃ y, y = (W.alloc (.cells #[.int .i64 x0, .int .i64 x1] 28)).putObj (w6.heap.size + 1) o' := ⟨_, rfl⟩
  obtain ⟨bx, hbx⟩ : ∃ y, y = W.heap.size := ⟨_, rfl⟩
  have B1 : Hid (Boxed Wb w3.heap.size 3 (.int .i64 T)) := by rw [hWb]; exact (World.putObj_heap_other (by have := HS6.out; omega)).trans (ga.block HI1.out)
  have B2 : Hid (Grew w3 Wb) := by rw [hWb]; exact (HI2.out.trans ga).grown (grownBy_putObj' _ _ o') (fun j hj => by injection hj with hj; have := HS6.out; omega)
  have HXB : Hid (Wb.heap[bx]? = some (.cells #[.int .i64 x0, .int .i64 x1] 28)) := by rw [hWb, hbx]; exact (World.putObj_heap_other (by omega)).trans (World.alloc_heap_new W _)
  have c0 : Wb.cell? ⟨bx, 0, none⟩ = some (.int .i64 x0) := by simp [World.cell?, HXB.out]
  have c1 : Wb.cell? ⟨bx, 1, none⟩ = some (.int .i64 x1) := by simp [World.cell?, HXB.out]
  rw [← hWb, ← hbx]
  clear hWb hbx ga HI1 HI2
  gi_wp2
  have e1 : IntKind.i64.wrap (x0 + x2) = x0 + x2 := IntWalk.i64_in _ (by omega)
  have e2 : IntKind.i64.wrap (x1 + x2) = x1 + x2 := IntWalk.i64_in _ (by omega)
  have hC : ∀ w', Grew Wb.drew w' → w'.cell? ⟨bx, 0, none⟩ = some (.int .i64 x0) ∧ w'.cell? ⟨bx, 1, none⟩ = some (.int .i64 x1) := fun w' g' => ⟨g'.cell ((Grew.refl Wb).drew.cell c0), g'.cell ((Grew.refl Wb).drew.cell c1)⟩
  refine wpIn_region_seqR (by kernel_rfl) (by kernel_rfl) (by rintro ⟨_, _, h⟩; exact h) Grew.refl (fun _ _ _ => Grew.trans) (fun _ _ _ _ _ h => h) (by kernel_rfl) ?_
  repeat' (first
   | (refine TakeAll.pure (v := ?_) (by rfl) ?_ ?_; rotate_left; (intro w' g'; obtain ⟨q_0, q_1⟩ := hC w' g'; go_simp; first | done | with_reducible rfl); (simp only [Act.put, uzT, uz0, uz1]))
   | (refine TakeAll.skip (by rfl) ?_; (simp only [Act.put, uzT, uz0, uz1]))
   | (refine TakeAll.part ?_ ?_ <;> (intro h; simp only [gvalB, ugT, ug0, ug1, Option.bind_some] at h; simp only [h]; (try simp at h)))
   | (refine TakeAll.nil ?_))
  all_goals clear hC
  intro w5 g5
  clear e1 e2 c0 c1
  have G5 : Grew Wb w5 := (Grew.refl Wb).drew.trans g5
  have B1' := Lib.hid (show Boxed w5 w3.heap.size 3 (.int .i64 T) from G5.block B1.out)
  have B2' := Lib.hid (B2.out.trans G5)
  have B3' := Lib.hid (keepsFrom_grew (B := w6.heap.size) G5)
  have B4' := Lib.hid (KeepB.grew (G := offT w3) G5)
  obtain ⟨R, hR⟩ : ∃ R, winS a b T (x0, x1, x2) = R := ⟨_, rfl⟩
  have HR0 := Lib.hid hR
  clear hR g5 G5 B1 B2
  gi_wp2
  gi_loopw [13] (fun v wr => ∃ lc S : Int, v = .int .i64 lc ∧ (x0 + x2 ≤ lc ∧ lc ≤ x1 + x2) ∧ Hid (Boxed wr w3.heap.size 3 (.int .i64 S)) ∧ Hid (Grew w3 wr) ∧ Hid (KeepsFrom w6.heap.size Wb wr) ∧ Hid (KeepB (offT w3) Wb wr) ∧ Hid (winA a b (x1 + x2 - lc).toNat lc (x1 + x2) S = R))
   (fun v _ => (x1 + x2 - intOf v).toNat)
  case atStart => exact ⟨x0 + x2, T, rfl, ⟨Int.le_refl _, by omega⟩, B1', B2', B3', B4', by unfold Hid; rw [← HR0.out]; unfold winS; rw [show x1 + x2 - (x0 + x2) = x1 - x0 by omega]⟩
  case round =>
   clear B1' B2' B3' B4'
   obtain ⟨lc, S, rfl, ⟨hlo, hhi⟩, B1, B2, B3, B4, HR⟩ := hrel
   by_cases hlt : lc < x1 + x2
   ·obtain ⟨d, hd⟩ : ∃ d, lc / 1440 = d := ⟨_, rfl⟩
    have HD := Lib.hid hd
    have hd1 : d * 1440 ≤ lc := by omega
    have hd2 : lc < d * 1440 + 1440 := by omega
    clear hd
    have m1 : wrap64 (d * 1440) = d * 1440 := wrap64_id (by omega) (by omega)
    rcases Decidable.em (x1 + x2 < d * 1440 + 1440) with hm | hm
    ·have qm : decide (x1 + x2 < d * 1440 + 1440) = true := decide_eq_true hm
     obtain ⟨Z, hZ⟩ : ∃ Z, winF (lc - d * 1440) ((x1 + x2) - d * 1440) a b = Z := ⟨_, rfl⟩
     have HZZ := Lib.hid hZ
     clear hZ
     gi_wp2_with (refine ⟨trivial, ?_⟩; gi_at_call 85; refine (CallsIn.inRound l (callsIn_wide.2 (floor85 lc d _ (by omega) (by omega) HD.out))).mono ?_; rintro r w' ⟨rfl, hww⟩; obtain rfl : wr = w' := hww.symm)
     refine wpIn_region_GR (by kernel_rfl) (by kernel_rfl) (by rintro ⟨_, _, h⟩; exact h) Grew.refl 10 ?_
     refine wpAnyG_takes Grew.refl (fun _ _ _ => Grew.trans) (fun _ _ _ _ _ h => h) [0, 1, 2, 3, 4, 5, 6, 7, 8, 9] (fuel' := 1) (by kernel_rfl) (by kernel_rfl) (by simp only [pickOps, ugT, ug0, ug1]; rfl) ?_
     have hC : ∀ w', Grew wr.drew w' → w'.cell? ⟨w3.heap.size, 0, none⟩ = some (.int .i64 S) ∧ w'.cell? ⟨w.heap.size + 1, 0, none⟩ = some (.int .i64 a) ∧ w'.cell? ⟨w.heap.size + 1, 1, none⟩ = some (.int .i64 b) := fun w' g' => ⟨g'.cell ((Grew.refl wr).drew.cell B1.out.cell), g'.cell ((Grew.refl wr).drew.cell (B2.out.cell Y0.out)), g'.cell ((Grew.refl wr).drew.cell (B2.out.cell Y1.out))⟩
     have s1 : IntKind.i64.wrap (lc - d * 1440) = lc - d * 1440 := IntWalk.i64_in _ (by omega)
     have s2 : IntKind.i64.wrap ((x1 + x2) - d * 1440) = (x1 + x2) - d * 1440 := IntWalk.i64_in _ (by omega)
     repeat (first
      | (refine TakeAll.pure (v := ?_) (by rfl) ?_ ?_; rotate_left; (intro w' g'; obtain ⟨q_0, q_1, q_2⟩ := hC w' g'; go_simp; first | done | with_reducible rfl); (simp only [Act.put, uzT, uz0, uz1]))
      | (refine TakeAll.skip (by rfl) ?_; (simp only [Act.put, uzT, uz0, uz1])))
     refine TakeAll.call (by rfl) 142 _ (fun _ => by go_simp; first | done | rfl) (fun w' g' => within142 (z := Z) ⟨by omega, by omega⟩ ⟨by omega, by omega⟩ ⟨ha1, ha2⟩ ⟨hb1, hb2⟩ HZZ.out) ?_
     simp only [Act.put, uzT, uz0, uz1]
     repeat (first
      | (refine TakeAll.pure (v := ?_) (by rfl) ?_ ?_; rotate_left; (intro w' g'; obtain ⟨q_0, q_1, q_2⟩ := hC w' g'; go_simp; first | done | with_reducible rfl); (simp only [Act.put, uzT, uz0, uz1]))
      | (refine TakeAll.skip (by rfl) ?_; (simp only [Act.put, uzT, uz0, uz1])))
     refine TakeAll.nil ?_
     clear hC s1 s2
     refine wpAnyG_end (by kernel_rfl) (fuel' := 0) (by kernel_rfl) (by simp only [pickOps, ugT, ug0, ug1]; rfl) rfl ?_
     intro w5 g5 K hK
     have B5 : Boxed w5 w3.heap.size 3 (.int .i64 S) := g5.block B1.out
     have b5 := B5.cell
     have f5 := B5.frozen
     go_simp
     refine hK _ _ ?_
     clear hK K
     refine wpAny_rest (fun _ _ _ _ _ h => h) [] (by kernel_rfl) (by kernel_rfl) (by kernel_rfl) rfl (TakeAll.nil ?_)
     have G5 : Grew wr w5 := (Grew.refl wr).drew.trans g5
     have B1' : Hid (Boxed (w5.setCell ⟨w3.heap.size, 0, none⟩ (.int .i64 (wrap64 (S + Z)))) w3.heap.size 3 (.int .i64 (wrap64 (S + Z)))) := B5.set _
     have B2' : Hid (Grew w3 (w5.setCell ⟨w3.heap.size, 0, none⟩ (.int .i64 (wrap64 (S + Z))))) := (B2.out.trans G5).set (Nat.le_refl _) _
     have B3' : Hid (KeepsFrom w6.heap.size Wb (w5.setCell ⟨w3.heap.size, 0, none⟩ (.int .i64 (wrap64 (S + Z))))) := B3.out.trans ((keepsFrom_grew G5).trans ((KeepsOthers.setCell _ _ _).from _))
     have B4' : Hid (KeepB (offT w3) Wb (w5.setCell ⟨w3.heap.size, 0, none⟩ (.int .i64 (wrap64 (S + Z))))) := B4.out.trans ((KeepB.grew G5).trans (KeepB.set _ _ (fun h => h.1 rfl)))
     obtain ⟨wz, hwz⟩ : ∃ y, y = w5.setCell ⟨w3.heap.size, 0, none⟩ (.int .i64 (wrap64 (S + Z))) := ⟨_, rfl⟩
     rw [show IntKind.i64.wrap (S + Z) = wrap64 (S + Z) by rw [IntKind.wrap_i64]; unfold wrap64; rfl]
     rw [← hwz] at B1' B2' B3' B4' ⊢
     clear hwz g5 G5 B5 b5 f5
     gi_wp2
     go_roundw
     case rel => exact ⟨(x1 + x2), wrap64 (S + Z), rfl, ⟨by omega, by omega⟩, B1', B2', B3', B4', by unfold Hid; rw [← HR.out, winA_step a b hlt (nx := (x1 + x2)) (by rw [HD.out]; omega), HD.out, HZZ.out]⟩
     case measure => simp [intOf]; omega
    ·have qm : decide (x1 + x2 < d * 1440 + 1440) = false := decide_eq_false hm
     obtain ⟨Z, hZ⟩ : ∃ Z, winF (lc - d * 1440) ((d * 1440 + 1440) - d * 1440) a b = Z := ⟨_, rfl⟩
     have HZZ := Lib.hid hZ
     clear hZ
     gi_wp2_with (refine ⟨trivial, ?_⟩; gi_at_call 85; refine (CallsIn.inRound l (callsIn_wide.2 (floor85 lc d _ (by omega) (by omega) HD.out))).mono ?_; rintro r w' ⟨rfl, hww⟩; obtain rfl : wr = w' := hww.symm)
     refine wpIn_region_GR (by kernel_rfl) (by kernel_rfl) (by rintro ⟨_, _, h⟩; exact h) Grew.refl 10 ?_
     refine wpAnyG_takes Grew.refl (fun _ _ _ => Grew.trans) (fun _ _ _ _ _ h => h) [0, 1, 2, 3, 4, 5, 6, 7, 8, 9] (fuel' := 1) (by kernel_rfl) (by kernel_rfl) (by simp only [pickOps, ugT, ug0, ug1]; rfl) ?_
     have hC : ∀ w', Grew wr.drew w' → w'.cell? ⟨w3.heap.size, 0, none⟩ = some (.int .i64 S) ∧ w'.cell? ⟨w.heap.size + 1, 0, none⟩ = some (.int .i64 a) ∧ w'.cell? ⟨w.heap.size + 1, 1, none⟩ = some (.int .i64 b) := fun w' g' => ⟨g'.cell ((Grew.refl wr).drew.cell B1.out.cell), g'.cell ((Grew.refl wr).drew.cell (B2.out.cell Y0.out)), g'.cell ((Grew.refl wr).drew.cell (B2.out.cell Y1.out))⟩
     have s1 : IntKind.i64.wrap (lc - d * 1440) = lc - d * 1440 := IntWalk.i64_in _ (by omega)
     have s2 : IntKind.i64.wrap ((d * 1440 + 1440) - d * 1440) = (d * 1440 + 1440) - d * 1440 := IntWalk.i64_in _ (by omega)
     repeat (first
      | (refine TakeAll.pure (v := ?_) (by rfl) ?_ ?_; rotate_left; (intro w' g'; obtain ⟨q_0, q_1, q_2⟩ := hC w' g'; go_simp; first | done | with_reducible rfl); (simp only [Act.put, uzT, uz0, uz1]))
      | (refine TakeAll.skip (by rfl) ?_; (simp only [Act.put, uzT, uz0, uz1])))
     refine TakeAll.call (by rfl) 142 _ (fun _ => by go_simp; first | done | rfl) (fun w' g' => within142 (z := Z) ⟨by omega, by omega⟩ ⟨by omega, by omega⟩ ⟨ha1, ha2⟩ ⟨hb1, hb2⟩ HZZ.out) ?_
     simp only [Act.put, uzT, uz0, uz1]
     repeat (first
      | (refine TakeAll.pure (v := ?_) (by rfl) ?_ ?_; rotate_left; (intro w' g'; obtain ⟨q_0, q_1, q_2⟩ := hC w' g'; go_simp; first | done | with_reducible rfl); (simp only [Act.put, uzT, uz0, uz1]))
      | (refine TakeAll.skip (by rfl) ?_; (simp only [Act.put, uzT, uz0, uz1])))
     refine TakeAll.nil ?_
     clear hC s1 s2
     refine wpAnyG_end (by kernel_rfl) (fuel' := 0) (by kernel_rfl) (by simp only [pickOps, ugT, ug0, ug1]; rfl) rfl ?_
     intro w5 g5 K hK
     have B5 : Boxed w5 w3.heap.size 3 (.int .i64 S) := g5.block B1.out
     have b5 := B5.cell
     have f5 := B5.frozen
     go_simp
     refine hK _ _ ?_
     clear hK K
     refine wpAny_rest (fun _ _ _ _ _ h => h) [] (by kernel_rfl) (by kernel_rfl) (by kernel_rfl) rfl (TakeAll.nil ?_)
     have G5 : Grew wr w5 := (Grew.refl wr).drew.trans g5
     have B1' : Hid (Boxed (w5.setCell ⟨w3.heap.size, 0, none⟩ (.int .i64 (wrap64 (S + Z)))) w3.heap.size 3 (.int .i64 (wrap64 (S + Z)))) := B5.set _
     have B2' : Hid (Grew w3 (w5.setCell ⟨w3.heap.size, 0, none⟩ (.int .i64 (wrap64 (S + Z))))) := (B2.out.trans G5).set (Nat.le_refl _) _
     have B3' : Hid (KeepsFrom w6.heap.size Wb (w5.setCell ⟨w3.heap.size, 0, none⟩ (.int .i64 (wrap64 (S + Z))))) := B3.out.trans ((keepsFrom_grew G5).trans ((KeepsOthers.setCell _ _ _).from _))
     have B4' : Hid (KeepB (offT w3) Wb (w5.setCell ⟨w3.heap.size, 0, none⟩ (.int .i64 (wrap64 (S + Z))))) := B4.out.trans ((KeepB.grew G5).trans (KeepB.set _ _ (fun h => h.1 rfl)))
     obtain ⟨wz, hwz⟩ : ∃ y, y = w5.setCell ⟨w3.heap.size, 0, none⟩ (.int .i64 (wrap64 (S + Z))) := ⟨_, rfl⟩
     rw [show IntKind.i64.wrap (S + Z) = wrap64 (S + Z) by rw [IntKind.wrap_i64]; unfold wrap64; rfl]
     rw [← hwz] at B1' B2' B3' B4' ⊢
     clear hwz g5 G5 B5 b5 f5
     gi_wp2
     go_roundw
     case rel => exact ⟨(d * 1440 + 1440), wrap64 (S + Z), rfl, ⟨by omega, by omega⟩, B1', B2', B3', B4', by unfold Hid; rw [← HR.out, winA_step a b hlt (nx := (d * 1440 + 1440)) (by rw [HD.out]; omega), HD.out, HZZ.out]⟩
     case measure => simp [intOf]; omega
   ·have hend : lc = x1 + x2 := by omega
    have HF : Hid (S = R) := by unfold Hid; rw [← HR.out, winA_end _ _ _ _ (by omega)]
    gi_wp2
    exact ⟨B3.out, B4.out, by rw [List.foldl_append, HT.out]; show Boxed _ _ _ (.int .i64 (winS a b T (x0, x1, x2))); rw [HR0.out, ← HF.out]; exact B1.out, B2.out⟩
 case done =>
  rintro xs W rfl hG hK
  have c9 := hG.1.cell
  have HG := Lib.hid hG
  clear hG k9 k2 k3 g6
  gi_wp2
  refine ⟨by simp, .inl ⟨_, _, rfl, run_takeDeferred hK, ?_⟩⟩
  refine ⟨_, results_tmp2 rfl _ _ _, rfl, ?_⟩
  exact (G3.trans HG.out.2).grown (grownBy_putObj' _ _ _) (fun j hj => by injection hj with hj; have := G3.le; omega)
end Go.Proofs.YtnnbibmmofnkdaaGreat
