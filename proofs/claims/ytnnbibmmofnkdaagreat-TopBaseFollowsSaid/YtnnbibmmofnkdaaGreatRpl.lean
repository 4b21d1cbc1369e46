/-
 The reference: validity of spans, duties, workers, limits, plans.
-/
import Derived.Test.YtnnbibmmofnkdaaGreatPlnA
import Derived.Test.YtnnbibmmofnkdaaGreatRsp
import Derived.Test.YtnnbibmmofnkdaaGreatSpB
import Derived.Test.YtnnbibmmofnkdaaGreatKit
namespace Go.Proofs.YtnnbibmmofnkdaaGreat
open Go.RowKit Go.Proofs WageMem WageReg WageRec WageSpan WageTop
/-- The reference's Valid over the first k spans. -/
def okTo (ss : List Sp) (k : Nat) : Prop := (∀ i s, i < k → ss[i]? = some s → properB s = true) ∧ ∀ i s t, i + 1 < k → ss[i]? = some s → ss[i + 1]? = some t → s.2 < t.1
theorem okTo_all {ss : List Sp} {n : Nat} (h : okTo ss n) (hn : ss.length = n) : nrm ss = ss := by
 rw [nrm_iff, valid_pairs]
 refine ⟨fun s hs => ?_, fun i s t h1 h2 => h.2 i s t ?_ h1 h2⟩
 ·obtain ⟨i, hi, rfl⟩ := List.mem_iff_getElem.1 hs
  exact h.1 i _ (by omega) (List.getElem?_eq_getElem hi)
 ·have := (List.getElem?_eq_some_iff.1 h2).1; omega
theorem okTo_step {ss : List Sp} {k : Nat} {s : Sp} (h : okTo ss k) (hs : ss[k]? = some s) (hp : properB s = true) (hprev : k = 0 ∨ ∃ j t, k = j + 1 ∧ ss[j]? = some t ∧ t.2 < s.1) : okTo ss (k + 1) := by
 refine ⟨fun i t hi ht => ?_, fun i t u hi ht hu => ?_⟩
 ·by_cases hik : i = k
  ·subst hik; rw [hs] at ht; injection ht with ht; rw [← ht]; exact hp
  ·exact h.1 i t (by omega) ht
 ·by_cases hik : i + 1 = k
  ·rcases hprev with h0 | ⟨j, t', hj, ht', hlt⟩
   ·omega
   ·obtain rfl : i = j := by omega
    rw [ht'] at ht; injection ht with ht; rw [hik, hs] at hu; injection hu with hu
    rw [← ht, ← hu]; exact hlt
  ·exact h.2 i t u (by omega) ht hu
theorem bad_proper {ss : List Sp} {k : Nat} {s : Sp} (hs : ss[k]? = some s) (hp : properB s = false) : ¬ nrm ss = ss := by
 intro h; rw [nrm_iff] at h; have := h.1 s (List.mem_of_getElem? hs); rw [hp] at this; cases this
theorem bad_pair {ss : List Sp} {k : Nat} {s t : Sp} (ht : ss[k]? = some t) (hs : ss[k + 1]? = some s) (hle : s.1 ≤ t.2) : ¬ nrm ss = ss := by
 intro h; rw [nrm_iff, valid_pairs] at h; have := h.2 k t s ht hs; omega
set_option maxRecDepth 100000 in
set_option maxHeartbeats 4000000 in
theorem rvalid109a (A : Option Addr) (n c : Nat) (ss : List Sp) (w : World) (h : Spans w A n c ss) :
  Calls Tryz.prog 109 #[.slice A n c] w fun r w' => r = .returned (.bool (decide (nrm ss = ss))) ∧ Grew w w' := by
 have HH := Lib.hid h
 have hn := h.le
 clear h
 go_enter Tryz.func109, Tryz.ntmps109
 go_wp2_with fail
 go_loopw [3] (fun i wr => ∃ k : Nat, k ≤ n ∧ i = .int .i64 k ∧ Hid (okTo ss k) ∧ Grew w wr) (fun i _ => n - (intOf i).toNat)
 case atStart => exact ⟨0, Nat.zero_le _, rfl, ⟨fun i s h => absurd h (by omega), fun i s t h => absurd h (by omega)⟩, Grew.refl _⟩
 case round =>
  obtain ⟨k, hk, rfl, HE, hg⟩ := hrel
  by_cases hlt : k < n
  ·obtain ⟨b, o, s, rfl, hs, c1, c2, b1, b2⟩ := (HH.out.grew hg).at_ hlt
   have HS := Lib.hid hs
   obtain ⟨s1, s2⟩ := s
   simp only at c1 c2 b1 b2
   have i0 : (0 : Int) ≤ (k : Int) := by omega
   have i1 : (k : Int) < (n : Int) := by omega
   clear hs
   replace c1 := (Grew.refl wr).drew.cell c1
   replace c2 := (Grew.refl wr).drew.cell c2
   cases hp : properB (s1, s2) with
   | false =>
    have HP := Lib.hid hp
    have HBAD := Lib.hid (bad_proper HS.out hp)
    clear hp
    go_wp2_with fail
    have hC : ∀ w', Grew wr.drew w' → w'.cell? ⟨b, o + k * 2, none⟩ = some (.int .i64 s1) ∧ w'.cell? ⟨b, o + k * 2 + 1, none⟩ = some (.int .i64 s2) := fun w' g' => ⟨g'.cell c1, g'.cell c2⟩
    refine wp_region_seq (by kernel_rfl) Grew.refl (fun _ _ _ => Grew.trans) (fun _ _ _ _ _ h => h) (by kernel_rfl) ?_
    repeat (first
     | (refine TakeAll.pure (v := ?_) (by rfl) ?_ ?_; rotate_left; (intro w' g'; obtain ⟨q0, q1⟩ := hC w' g'; go_simp; first | done | with_reducible rfl); (simp only [Act.put, uzT, uz0, uz1]))
     | (refine TakeAll.skip (by rfl) ?_; (simp only [Act.put, uzT, uz0, uz1])))
    refine TakeAll.call (by rfl) 139 _ (fun _ => by go_simp) (fun w' _ => rproper_val HP.out w') ?_
    simp only [Act.put, uzT, uz0, uz1]
    repeat (first
     | (refine TakeAll.pure (v := ?_) (by rfl) ?_ ?_; rotate_left; (intro w' g'; obtain ⟨q0, q1⟩ := hC w' g'; go_simp; first | done | with_reducible rfl); (simp only [Act.put, uzT, uz0, uz1]))
     | (refine TakeAll.skip (by rfl) ?_; (simp only [Act.put, uzT, uz0, uz1])))
    refine TakeAll.nil ?_
    intro w5 g5
    go_wp2_with fail
    go_ret
    exact ⟨by rw [decide_eq_false HBAD.out]; rfl, (hg.drew).trans g5⟩
   | true =>
    have HP := Lib.hid hp
    clear hp
    by_cases hk0 : k = 0
    ·have t1 : decide (0 < (k : Int)) = false := decide_eq_false (by omega)
     have t2 : decide (0 < k) = false := decide_eq_false (by omega)
     have HOK := Lib.hid (okTo_step HE.out HS.out HP.out (.inl hk0))
     clear hk0
     go_wp2_with fail
     have hC : ∀ w', Grew wr.drew w' → w'.cell? ⟨b, o + k * 2, none⟩ = some (.int .i64 s1) ∧ w'.cell? ⟨b, o + k * 2 + 1, none⟩ = some (.int .i64 s2) := fun w' g' => ⟨g'.cell c1, g'.cell c2⟩
     refine wp_region_seq (by kernel_rfl) Grew.refl (fun _ _ _ => Grew.trans) (fun _ _ _ _ _ h => h) (by kernel_rfl) ?_
     repeat (first
      | (refine TakeAll.pure (v := ?_) (by rfl) ?_ ?_; rotate_left; (intro w' g'; obtain ⟨q0, q1⟩ := hC w' g'; go_simp; first | done | with_reducible rfl); (simp only [Act.put, uzT, uz0, uz1]))
      | (refine TakeAll.skip (by rfl) ?_; (simp only [Act.put, uzT, uz0, uz1])))
     refine TakeAll.call (by rfl) 139 _ (fun _ => by go_simp) (fun w' _ => rproper_val HP.out w') ?_
     simp only [Act.put, uzT, uz0, uz1]
     repeat (first
      | (refine TakeAll.pure (v := ?_) (by rfl) ?_ ?_; rotate_left; (intro w' g'; obtain ⟨q0, q1⟩ := hC w' g'; go_simp; first | done | with_reducible rfl); (simp only [Act.put, uzT, uz0, uz1]))
      | (refine TakeAll.skip (by rfl) ?_; (simp only [Act.put, uzT, uz0, uz1])))
     refine TakeAll.nil ?_
     intro w5 g5
     go_wp2_with fail
     go_roundw
     case rel => exact ⟨k + 1, by omega, by go_num, HOK, (hg.drew).trans g5⟩
     case measure => simp [intOf]; omega
    ·have q1 : decide (0 < (k : Int)) = true := decide_eq_true (by omega)
     have q2 : decide (0 < k) = true := decide_eq_true (by omega)
     obtain ⟨b', o', t, e1, ht, d1, d2, bt1, bt2⟩ := (HH.out.grew hg).at_ (show k - 1 < n by omega)
     injection e1 with e1
     injection e1 with e1 e2
     subst e1 e2
     obtain ⟨t1, t2⟩ := t
     simp only at d1 d2 bt1 bt2
     have HT := Lib.hid ht
     clear ht d1
     replace d2 := (Grew.refl wr).drew.cell d2
     have m1 : IntKind.i64.wrap ((k : Int) - 1) = (k : Int) - 1 := IntWalk.i64_in _ (by omega)
     have m2 : ((k : Int) - 1).toNat = k - 1 := by omega
     have m3 : (0 : Int) ≤ (k : Int) - 1 := by omega
     have m3' : (1 : Int) ≤ (k : Int) := by omega
     have m4 : (k : Int) - 1 < (n : Int) := by omega
     by_cases hle : s1 ≤ t2
     ·have q3 : decide (s1 ≤ t2) = true := decide_eq_true hle
      have HBAD := Lib.hid (bad_pair HT.out (show ss[k - 1 + 1]? = some (s1, s2) by rw [show k - 1 + 1 = k by omega]; exact HS.out) hle)
      clear hle
      go_wp2_with fail
      have hC : ∀ w', Grew wr.drew w' → w'.cell? ⟨b, o + k * 2, none⟩ = some (.int .i64 s1) ∧ w'.cell? ⟨b, o + k * 2 + 1, none⟩ = some (.int .i64 s2) ∧ w'.cell? ⟨b, o + (k - 1) * 2 + 1, none⟩ = some (.int .i64 t2) := fun w' g' => ⟨g'.cell c1, g'.cell c2, g'.cell d2⟩
      refine wp_region_seq (by kernel_rfl) Grew.refl (fun _ _ _ => Grew.trans) (fun _ _ _ _ _ h => h) (by kernel_rfl) ?_
      repeat (first
       | (refine TakeAll.pure (v := ?_) (by rfl) ?_ ?_; rotate_left; (intro w' g'; obtain ⟨q0, q1, q2⟩ := hC w' g'; go_simp; first | done | with_reducible rfl); (simp only [Act.put, uzT, uz0, uz1]))
       | (refine TakeAll.skip (by rfl) ?_; (simp only [Act.put, uzT, uz0, uz1])))
      refine TakeAll.call (by rfl) 139 _ (fun _ => by go_simp) (fun w' _ => rproper_val HP.out w') ?_
      simp only [Act.put, uzT, uz0, uz1]
      repeat (first
       | (refine TakeAll.pure (v := ?_) (by rfl) ?_ ?_; rotate_left; (intro w' g'; obtain ⟨q0, q1, q2⟩ := hC w' g'; go_simp; first | done | with_reducible rfl); (simp only [Act.put, uzT, uz0, uz1]))
       | (refine TakeAll.skip (by rfl) ?_; (simp only [Act.put, uzT, uz0, uz1])))
      refine TakeAll.nil ?_
      intro w5 g5
      go_wp2_with fail
      go_ret
      exact ⟨by rw [decide_eq_false HBAD.out]; rfl, (hg.drew).trans g5⟩
     ·have q3 : decide (s1 ≤ t2) = false := decide_eq_false hle
      have HOK := Lib.hid (okTo_step HE.out HS.out HP.out (.inr ⟨k - 1, _, by omega, HT.out, by show t2 < s1; omega⟩))
      clear hle
      go_wp2_with fail
      have hC : ∀ w', Grew wr.drew w' → w'.cell? ⟨b, o + k * 2, none⟩ = some (.int .i64 s1) ∧ w'.cell? ⟨b, o + k * 2 + 1, none⟩ = some (.int .i64 s2) ∧ w'.cell? ⟨b, o + (k - 1) * 2 + 1, none⟩ = some (.int .i64 t2) := fun w' g' => ⟨g'.cell c1, g'.cell c2, g'.cell d2⟩
      refine wp_region_seq (by kernel_rfl) Grew.refl (fun _ _ _ => Grew.trans) (fun _ _ _ _ _ h => h) (by kernel_rfl) ?_
      repeat (first
       | (refine TakeAll.pure (v := ?_) (by rfl) ?_ ?_; rotate_left; (intro w' g'; obtain ⟨q0, q1, q2⟩ := hC w' g'; go_simp; first | done | with_reducible rfl); (simp only [Act.put, uzT, uz0, uz1]))
       | (refine TakeAll.skip (by rfl) ?_; (simp only [Act.put, uzT, uz0, uz1])))
      refine TakeAll.call (by rfl) 139 _ (fun _ => by go_simp) (fun w' _ => rproper_val HP.out w') ?_
      simp only [Act.put, uzT, uz0, uz1]
      repeat (first
       | (refine TakeAll.pure (v := ?_) (by rfl) ?_ ?_; rotate_left; (intro w' g'; obtain ⟨q0, q1, q2⟩ := hC w' g'; go_simp; first | done | with_reducible rfl); (simp only [Act.put, uzT, uz0, uz1]))
       | (refine TakeAll.skip (by rfl) ?_; (simp only [Act.put, uzT, uz0, uz1])))
      refine TakeAll.nil ?_
      intro w5 g5
      go_wp2_with fail
      go_roundw
      case rel => exact ⟨k + 1, by omega, by go_num, HOK, (hg.drew).trans g5⟩
      case measure => simp [intOf]; omega
  ·have hfin := Lib.hid (okTo_all (show okTo ss n by have := HE.out; rwa [show k = n by omega] at this) HH.out.1)
   go_wp2_with fail
   go_ret
   exact ⟨by rw [decide_eq_true hfin.out]; rfl, hg⟩
theorem rvalid109 {A : Option Addr} {n c : Nat} {ss : List Sp} {w : World} {t : Bool} (h : Spans w A n c ss) (ht : decide (nrm ss = ss) = t) : Calls Tryz.prog 109 #[.slice A n c] w fun r w' => r = .returned (.bool t) ∧ Grew w w' := by
 subst ht; exact rvalid109a A n c ss w h
theorem rmin53 (nm : ByteArray) (zb : Int) (C : Option Addr) (n c : Nat) (ch : List Sp) (d : Du) (w : World) (hs : Spans w C n c ch) (hz : znB ⟨zb, ch⟩ = true) :
  Calls Tryz.prog 53 #[.agg #[.string nm, .int .i64 zb, .slice C n c], duV d] w fun r w' => ∃ (A : Option Addr) (m k : Nat) (er : Int), r = .returned (.tuple #[.slice A m k, .int .i64 er]) ∧ (er = 0 → dOk ⟨zb, ch⟩ d = true) ∧ Grew w w' := by
 obtain ⟨a, b, s⟩ := d
 have HS := Lib.hid hs
 have HZ := Lib.hid hz
 clear hs hz
 show Calls Tryz.prog 53 #[.agg #[.string nm, .int .i64 zb, .slice C n c], .agg #[.int .i64 a, .int .i64 b, .int .i64 s]] w _
 obtain ⟨t, ht⟩ : ∃ t, decide (0 ≤ a ∧ b ≤ 52596000 ∧ a < b ∧ b - a ≤ 1440 ∧ 0 ≤ s ∧ s < 65536) = t := ⟨_, rfl⟩
 have HT := Lib.hid ht
 clear ht
 have gb : Grew w ((w.alloc (.cells #[.string nm, .int .i64 zb, .slice C n c] 24)).alloc (.cells #[.int .i64 a, .int .i64 b, .int .i64 s] 47)) := ((Grew.refl w).alloc _).alloc _
 go_enter Tryz.func53, Tryz.ntmps53
 go_wp2_with fail
 refine (rval107 a b s t _ HT.out).mono ?_
 rintro r w1 ⟨rfl, g1⟩
 have G1 := gb.trans g1
 cases t with
 | false =>
  go_wp2
  go_ret2
  exact ⟨_, _, _, _, rfl, (fun h => by cases h), G1⟩
 | true =>
  have hd := of_decide_eq_true HT.out
  have x0 := g1.block (show ((w.alloc (.cells #[.string nm, .int .i64 zb, .slice C n c] 24)).alloc (.cells #[.int .i64 a, .int .i64 b, .int .i64 s] 47)).heap[w.heap.size]? = some (.cells #[.string nm, .int .i64 zb, .slice C n c] 24) from ((Grew.refl _).alloc _).block (World.alloc_heap_new w _))
  have x1 := g1.block (show ((w.alloc (.cells #[.string nm, .int .i64 zb, .slice C n c] 24)).alloc (.cells #[.int .i64 a, .int .i64 b, .int .i64 s] 47)).heap[w.heap.size + 1]? = some (.cells #[.int .i64 a, .int .i64 b, .int .i64 s] 47) by
   have := World.alloc_heap_new (w.alloc (.cells #[.string nm, .int .i64 zb, .slice C n c] 24)) (.cells #[.int .i64 a, .int .i64 b, .int .i64 s] 47); rwa [World.size_alloc] at this)
  have v0 : w1.cell? ⟨w.heap.size, 0, none⟩ = some (.string nm) := by simp [World.cell?, x0]
  have v1 : w1.cell? ⟨w.heap.size, 1, none⟩ = some (.int .i64 zb) := by simp [World.cell?, x0]
  have v2 : w1.cell? ⟨w.heap.size, 2, none⟩ = some (.slice C n c) := by simp [World.cell?, x0]
  have u0 : w1.cell? ⟨w.heap.size + 1, 0, none⟩ = some (.int .i64 a) := by simp [World.cell?, x1]
  have u1 : w1.cell? ⟨w.heap.size + 1, 1, none⟩ = some (.int .i64 b) := by simp [World.cell?, x1]
  have H1 := Lib.hid (HS.out.grew G1)
  obtain ⟨h1, h3, h2, h4, h5, h6⟩ := hd
  have HDU : Hid (durOk ⟨a, b, s⟩ = true) := decide_eq_true ⟨h1, h2, h3, h4, h5, by show s ≤ 65535; omega⟩
  clear x0 x1 gb g1
  go_wp2_with fail
  refine (rsplit108 nm zb C n c ch a b w1 H1.out HZ.out h1 (by omega) h3 (by omega)).mono ?_
  rintro r w2 ⟨A, m, k, er, rfl, her, g2⟩
  have HER := Lib.hid her
  clear her
  go_wp2
  go_ret2
  exact ⟨_, _, _, _, rfl, fun h => by unfold dOk; rw [HDU.out]; exact HER.out h, G1.trans g2⟩
theorem rlim52 (l : Lm) (t : Bool) (w : World) (h : lOk l = t) : Calls Tryz.prog 52 #[lmV l] w fun r w' => r = .returned (.bool t) ∧ Grew w w' := by
 obtain ⟨r0, r1, r2, r3, r4⟩ := l
 have HT := Lib.hid h
 clear h
 show Calls Tryz.prog 52 #[.agg #[.int .i64 r0, .int .i64 r1, .int .i64 r2, .int .i64 r3, .int .i64 r4]] w _
 have gb : Grew w (w.alloc (.cells #[.int .i64 r0, .int .i64 r1, .int .i64 r2, .int .i64 r3, .int .i64 r4] 30)) := (Grew.refl w).alloc _
 have X0 := Lib.hid (World.alloc_heap_new w (.cells #[.int .i64 r0, .int .i64 r1, .int .i64 r2, .int .i64 r3, .int .i64 r4] 30))
 obtain ⟨t0, ht0⟩ : ∃ t, decide (0 ≤ r0 ∧ r0 ≤ 10080) = t := ⟨_, rfl⟩
 obtain ⟨t1, ht1⟩ : ∃ t, decide (0 ≤ r1 ∧ r1 ≤ 20000) = t := ⟨_, rfl⟩
 obtain ⟨t2, ht2⟩ : ∃ t, decide (0 ≤ r4 ∧ r4 ≤ 1500) = t := ⟨_, rfl⟩
 obtain ⟨t3, ht3⟩ : ∃ t, decide (0 ≤ r2 ∧ r2 ≤ 1440 ∧ 0 ≤ r3 ∧ r3 ≤ 1440) = t := ⟨_, rfl⟩
 have HE : Hid ((t0 && (t1 && (t2 && t3))) = t) := by
  unfold Hid; rw [← HT.out, ← ht0, ← ht1, ← ht2, ← ht3]; unfold lOk; simp only
  rw [← Bool.decide_and (0 ≤ r2 ∧ r2 ≤ 1440) (0 ≤ r3 ∧ r3 ≤ 1440)]
  simp only [and_assoc]
 have T0 := Lib.hid ht0
 have T1 := Lib.hid ht1
 have T2 := Lib.hid ht2
 have T3 := Lib.hid ht3
 clear ht0 ht1 ht2 ht3 HT
 go_enter Tryz.func52, Tryz.ntmps52
 go_wp2_with fail
 refine (within105 r0 0 10080 t0 _ T0.out).mono ?_
 rintro r w1 ⟨rfl, g1⟩
 have G1 := gb.trans g1
 have x1 := g1.block X0.out
 cases t0 with
 | false =>
  go_wp2
  go_ret
  exact ⟨congrArg (fun b => Ending.returned (Value.bool b)) HE.out, G1⟩
 | true =>
  have v1 : w1.cell? ⟨w.heap.size, 1, none⟩ = some (.int .i64 r1) := by simp [World.cell?, x1]
  have XX := Lib.hid x1
  clear x1 gb
  go_wp2_with fail
  refine (within105 r1 0 20000 t1 _ T1.out).mono ?_
  rintro r w2 ⟨rfl, g2⟩
  have G2 := G1.trans g2
  have x1 := g2.block XX.out
  cases t1 with
  | false =>
   go_wp2
   go_ret
   exact ⟨congrArg (fun b => Ending.returned (Value.bool b)) HE.out, G2⟩
  | true =>
   have v2 : w2.cell? ⟨w.heap.size, 4, none⟩ = some (.int .i64 r4) := by simp [World.cell?, x1]
   have XY := Lib.hid x1
   clear x1 v1
   go_wp2_with fail
   refine (within105 r4 0 1500 t2 _ T2.out).mono ?_
   rintro r w3 ⟨rfl, g3⟩
   have G3 := G2.trans g3
   have x1 := g3.block XY.out
   cases t2 with
   | false =>
    go_wp2
    go_ret
    exact ⟨congrArg (fun b => Ending.returned (Value.bool b)) HE.out, G3⟩
   | true =>
    have v3 : w3.cell? ⟨w.heap.size, 2, none⟩ = some (.int .i64 r2) := by simp [World.cell?, x1]
    have v4 : w3.cell? ⟨w.heap.size, 3, none⟩ = some (.int .i64 r3) := by simp [World.cell?, x1]
    clear x1 v2
    go_wp2_with fail
    refine (frame106 r2 r3 t3 _ T3.out).mono ?_
    rintro r w4 ⟨rfl, g4⟩
    go_wp2
    go_ret
    exact ⟨congrArg (fun b => Ending.returned (Value.bool b)) HE.out, G3.trans g4⟩
theorem rwrk54 (x : Wo) (t : Bool) (w : World) (hs : Spans w x.A x.n x.c x.aw) (h : wOk x = t) : Calls Tryz.prog 54 #[woV x] w fun r w' => r = .returned (.bool t) ∧ Grew w w' := by
 obtain ⟨nm, sk, mi, wg, A, n, c, aw⟩ := x
 have HT := Lib.hid h
 have HS := Lib.hid hs
 have hnl : aw.length = n := hs.1
 have HNL := Lib.hid hnl
 have hn9 : n ≤ 9223372036854775807 := hs.le
 clear h hs hnl
 show Calls Tryz.prog 54 #[.agg #[.string nm, .int .i64 sk, .bool mi, .int .i64 wg, .slice A n c]] w _
 have gb : Grew w (w.alloc (.cells #[.string nm, .int .i64 sk, .bool mi, .int .i64 wg, .slice A n c] 56)) := (Grew.refl w).alloc _
 have X0 := Lib.hid (World.alloc_heap_new w (.cells #[.string nm, .int .i64 sk, .bool mi, .int .i64 wg, .slice A n c] 56))
 obtain ⟨t0, ht0⟩ : ∃ t, decide (0 ≤ sk ∧ sk ≤ 65535) = t := ⟨_, rfl⟩
 obtain ⟨t1, ht1⟩ : ∃ t, decide (0 ≤ wg ∧ wg ≤ 1000000) = t := ⟨_, rfl⟩
 obtain ⟨t3, ht3⟩ : ∃ t, decide (nrm aw = aw) = t := ⟨_, rfl⟩
 have HE : Hid ((t0 && (t1 && (decide (n ≤ 400) && (t3 && awOk aw)))) = t) := by unfold Hid; rw [← HT.out, ← ht0, ← ht1, ← ht3]; rfl
 have T0 := Lib.hid ht0
 have T1 := Lib.hid ht1
 have T3 := Lib.hid ht3
 clear ht0 ht1 ht3 HT
 go_enter Tryz.func54, Tryz.ntmps54
 go_wp2_with fail
 refine (within105 sk 0 65535 t0 _ T0.out).mono ?_
 rintro r w1 ⟨rfl, g1⟩
 have G1 := gb.trans g1
 have x1 := g1.block X0.out
 cases t0 with
 | false =>
  go_wp2
  go_ret
  exact ⟨congrArg (fun b => Ending.returned (Value.bool b)) HE.out, G1⟩
 | true =>
  have v3 : w1.cell? ⟨w.heap.size, 3, none⟩ = some (.int .i64 wg) := by simp [World.cell?, x1]
  have XX := Lib.hid x1
  clear x1 gb
  go_wp2_with fail
  refine (within105 wg 0 1000000 t1 _ T1.out).mono ?_
  rintro r w2 ⟨rfl, g2⟩
  have G2 := G1.trans g2
  have x1 := g2.block XX.out
  cases t1 with
  | false =>
   go_wp2
   go_ret
   exact ⟨congrArg (fun b => Ending.returned (Value.bool b)) HE.out, G2⟩
  | true =>
   clear v3
   have v4 : w2.cell? ⟨w.heap.size, 4, none⟩ = some (.slice A n c) := by simp [World.cell?, x1]
   have XY := Lib.hid x1
   clear x1
   by_cases hn4 : n ≤ 400
   ·have q4 : decide ((400 : Int) < (n : Int)) = false := decide_eq_false (by omega)
    have q5 : ¬ ((400 : Int) < (n : Int)) := by omega
    have q6 : decide (400 < n) = false := decide_eq_false (by omega)
    have HE2 : Hid ((t3 && awOk aw) = t) := by unfold Hid; rw [← HE.out, decide_eq_true hn4]; rfl
    have H2 := Lib.hid (HS.out.grew G2)
    clear HE
    go_wp2_with fail
    refine (rvalid109 H2.out T3.out).mono ?_
    rintro r w3 ⟨rfl, g3⟩
    have G3 := G2.trans g3
    have x1 := g3.block XY.out
    cases t3 with
    | false =>
     go_wp2
     go_ret
     exact ⟨congrArg (fun b => Ending.returned (Value.bool b)) HE2.out, G3⟩
    | true =>
     clear v4
     have v4 : w3.cell? ⟨w.heap.size, 4, none⟩ = some (.slice A n c) := by simp [World.cell?, x1]
     have H3 := Lib.hid (HS.out.grew G3)
     clear x1 q4 q5 q6 XX XY
     go_wp2_with fail
     go_loopw [3] (fun i y => ∃ k : Nat, k ≤ n ∧ i = .int .i64 k ∧ Hid (awOk (aw.drop k) = t) ∧ y = w3) (fun i _ => n - (intOf i).toNat)
     case atStart => exact ⟨0, Nat.zero_le _, rfl, HE2.out, rfl⟩
     case round =>
      obtain ⟨k, hk, rfl, HK, hy⟩ := hrel
      obtain rfl : w3 = wr := hy.symm
      clear hy
      by_cases hlt : k < n
      ·obtain ⟨b, o, s, hA, hsk, r1, r2, l1, l2⟩ := H3.out.at_ hlt
       subst hA
       have HK2 : Hid ((decide (0 ≤ s.1 ∧ s.2 ≤ 52596000) && awOk (aw.drop (k + 1))) = t) := by
        have := HK.out
        rw [List.drop_eq_getElem_cons (by rw [HNL.out]; exact hlt), (List.getElem?_eq_some_iff.1 hsk).2] at this
        exact this
       obtain ⟨s1, s2⟩ := s
       simp only at r1 r2 l1 l2
       have e1 : (0 : Int) ≤ (k : Int) := by omega
       have e2 : (k : Int) < (n : Int) := by omega
       clear HK hsk
       have HKx : Hid ((decide (0 ≤ s1 ∧ s2 ≤ 52596000) && awOk (aw.drop (k + 1))) = t) := HK2
       clear HK2
       by_cases h0 : s1 < 0
       ·have q0 : decide (s1 < 0) = true := decide_eq_true h0
        have HF : Hid (false = t) := by unfold Hid; rw [← HKx.out, decide_eq_false (by omega)]; rfl
        go_wp2
        go_ret
        exact ⟨congrArg (fun b => Ending.returned (Value.bool b)) HF.out, G3⟩
       ·have q0 : decide (s1 < 0) = false := decide_eq_false h0
        by_cases h1 : 52596000 < s2
        ·have q1 : decide (52596000 < s2) = true := decide_eq_true h1
         have HF : Hid (false = t) := by unfold Hid; rw [← HKx.out, decide_eq_false (by omega)]; rfl
         go_wp2
         go_ret
         exact ⟨congrArg (fun b => Ending.returned (Value.bool b)) HF.out, G3⟩
        ·have q1 : decide (52596000 < s2) = false := decide_eq_false h1
         have HF : Hid (awOk (aw.drop (k + 1)) = t) := by unfold Hid; rw [← HKx.out, decide_eq_true (by omega)]; rfl
         clear HKx
         go_wp2_with fail
         go_roundw
         case rel => exact ⟨k + 1, by omega, by go_num, HF, trivial⟩
         case measure => simp [intOf]; omega
      ·obtain rfl : n = k := by omega
       have HF : Hid (true = t) := by unfold Hid; rw [← HK.out, ← HNL.out, List.drop_length]; rfl
       go_wp2
       go_ret
       exact ⟨congrArg (fun b => Ending.returned (Value.bool b)) HF.out, G3⟩
   ·have q4 : decide ((400 : Int) < (n : Int)) = true := decide_eq_true (by omega)
    have q5 : (400 : Int) < (n : Int) := by omega
    have q6 : decide (400 < n) = true := decide_eq_true (by omega)
    have HE2 : Hid (false = t) := by unfold Hid; rw [← HE.out, decide_eq_false hn4]; rfl
    go_wp2
    go_ret
    exact ⟨congrArg (fun b => Ending.returned (Value.bool b)) HE2.out, G2⟩
/-- A call returns a bool that is true at most where Z holds. -/
def RetVB (Z : Prop) (w : World) (r : Ending) (w' : World) : Prop := ∃ t, r = .returned (.bool t) ∧ (t = true → Z) ∧ Grew w w'
set_option maxRecDepth 100000 in
set_option maxHeartbeats 8000000 in
theorem rv24 (p : Pl) (w : World) (hp : PlanAt w p) : Calls Tryz.prog 24 #[planV p] w (RetVB (planB p = true) w) := by
 have HP := Lib.hid hp
 clear hp
 obtain ⟨nm, zb, C, cn, cc, ch, D, dn, dc, ds, W, wn, wc, ws, ⟨rest, week, nf, nt, mn⟩⟩ := p
 obtain ⟨p, hpp⟩ : ∃ p : Pl, p = ⟨nm, zb, C, cn, cc, ch, D, dn, dc, ds, W, wn, wc, ws, ⟨rest, week, nf, nt, mn⟩⟩ := ⟨_, rfl⟩
 rw [← hpp] at HP
 have HPP := Lib.hid hpp
 have HCH : Hid (Spans w C cn cc ch) := by have := HP.out.ch; rw [hpp] at this; exact this
 have HDS : Hid (Dus w D dn dc ds) := by have := HP.out.ds; rw [hpp] at this; exact this
 have HWS : Hid (Wos w W wn wc ws) := by have := HP.out.ws; rw [hpp] at this; exact this
 have hdn := HDS.out.le
 have hwn := HWS.out.le
 clear HP
 show Calls Tryz.prog 24 #[.agg #[.string nm, .int .i64 zb, .slice C cn cc, .slice D dn dc, .slice W wn wc, .int .i64 rest, .int .i64 week, .int .i64 nf, .int .i64 nt, .int .i64 mn]] w _
 rw [← hpp]
 clear hpp
 have gb : Grew w (w.alloc (.cells #[.string nm, .int .i64 zb, .slice C cn cc, .slice D dn dc, .slice W wn wc, .int .i64 rest, .int .i64 week, .int .i64 nf, .int .i64 nt, .int .i64 mn] 32)) := (Grew.refl w).alloc _
 have X0 := Lib.hid (World.alloc_heap_new w (.cells #[.string nm, .int .i64 zb, .slice C cn cc, .slice D dn dc, .slice W wn wc, .int .i64 rest, .int .i64 week, .int .i64 nf, .int .i64 nt, .int .i64 mn] 32))
 obtain ⟨t0, ht0⟩ : ∃ t, znB ⟨zb, ch⟩ = t := ⟨_, rfl⟩
 have T0 := Lib.hid ht0
 obtain ⟨t3, ht3⟩ : ∃ t, lOk ⟨rest, week, nf, nt, mn⟩ = t := ⟨_, rfl⟩
 have T3 := Lib.hid ht3
 clear ht0 ht3
 go_enter Tryz.func24, Tryz.ntmps24
 go_wp2_with fail
 refine (rzvalid51 nm zb C cn cc ch _ t0 (HCH.out.grew gb) T0.out).mono ?_
 rintro r w1 ⟨rfl, g1⟩
 have G1 := gb.trans g1
 have x1 := g1.block X0.out
 cases t0 with
 | false =>
  go_wp2
  go_ret
  exact ⟨false, rfl, (fun h => by cases h), G1⟩
 | true =>
  have v3 : w1.cell? ⟨w.heap.size, 3, none⟩ = some (.slice D dn dc) := by simp [World.cell?, x1]
  have v4 : w1.cell? ⟨w.heap.size, 4, none⟩ = some (.slice W wn wc) := by simp [World.cell?, x1]
  have v5 : w1.cell? ⟨w.heap.size, 5, none⟩ = some (.int .i64 rest) := by simp [World.cell?, x1]
  have v6 : w1.cell? ⟨w.heap.size, 6, none⟩ = some (.int .i64 week) := by simp [World.cell?, x1]
  have v7 : w1.cell? ⟨w.heap.size, 7, none⟩ = some (.int .i64 nf) := by simp [World.cell?, x1]
  have v8 : w1.cell? ⟨w.heap.size, 8, none⟩ = some (.int .i64 nt) := by simp [World.cell?, x1]
  have v9 : w1.cell? ⟨w.heap.size, 9, none⟩ = some (.int .i64 mn) := by simp [World.cell?, x1]
  have XX := Lib.hid x1
  clear x1 gb
  by_cases hn1 : dn ≤ 24
  ·have q1 : ¬ ((24 : Int) < (dn : Int)) := by omega
   have q2 : ¬ (24 < dn) := by omega
   by_cases hn2 : wn ≤ 12
   ·have q3 : ¬ ((12 : Int) < (wn : Int)) := by omega
    have q4 : ¬ (12 < wn) := by omega
    go_wp2_with fail
    refine (rlim52 ⟨rest, week, nf, nt, mn⟩ t3 w1 T3.out).mono ?_
    rintro r w2 ⟨rfl, g2⟩
    have G2 := G1.trans g2
    have x1 := g2.block XX.out
    cases t3 with
    | false =>
     go_wp2
     go_ret
     exact ⟨false, rfl, (fun h => by cases h), G2⟩
    | true =>
     clear v3 v4 v5 v6 v7 v8 v9
     have X2 := Lib.hid x1
     clear x1 q1 q2 q3 q4
     have HCH2 := Lib.hid (HCH.out.grew G2)
     have HDS2 := Lib.hid (HDS.out.grew G2)
     have HWS2 := Lib.hid (HWS.out.grew G2)
     have HG := Lib.hid G2
     clear HCH HDS HWS G1 g1 g2 G2
     go_wp2_with fail
     go_loopw [3] (fun i y => ∃ k : Nat, k ≤ dn ∧ i = .int .i64 k ∧ Hid (∀ j x, j < k → ds[j]? = some x → dOk ⟨zb, ch⟩ x = true) ∧ Hid (Grew w2 y)) (fun i _ => dn - (intOf i).toNat)
     case atStart => exact ⟨0, Nat.zero_le _, rfl, fun j x h => by omega, Grew.refl _⟩
     case round =>
      obtain ⟨k, hk, rfl, HK, HR⟩ := hrel
      have x1 := HR.out.block X2.out
      have v0 : wr.cell? ⟨w.heap.size, 0, none⟩ = some (.string nm) := by simp [World.cell?, x1]
      have v1 : wr.cell? ⟨w.heap.size, 1, none⟩ = some (.int .i64 zb) := by simp [World.cell?, x1]
      have v2 : wr.cell? ⟨w.heap.size, 2, none⟩ = some (.slice C cn cc) := by simp [World.cell?, x1]
      have v3 : wr.cell? ⟨w.heap.size, 3, none⟩ = some (.slice D dn dc) := by simp [World.cell?, x1]
      have X3 := Lib.hid x1
      clear x1
      by_cases hlt : k < dn
      ·obtain ⟨b, o, x, hA, hx, ⟨c0, c1, c2⟩, _⟩ := (HDS2.out.grew HR.out).at_ hlt
       subst hA
       have HX := Lib.hid hx
       clear hx
       obtain ⟨xa, xb, xs⟩ := x
       simp only at c0 c1 c2
       have e1 : (0 : Int) ≤ (k : Int) := by omega
       have e2 : (k : Int) < (dn : Int) := by omega
       go_upto_region 6 with (fail)
       refine wp_region_G (by kernel_rfl) Grew.refl 13 ?_
       have hC : ∀ w', Grew wr.drew w' → (w'.cell? ⟨w.heap.size, 0, none⟩ = some (.string nm) ∧ w'.cell? ⟨w.heap.size, 1, none⟩ = some (.int .i64 zb) ∧ w'.cell? ⟨w.heap.size, 2, none⟩ = some (.slice C cn cc) ∧ w'.cell? ⟨w.heap.size, 3, none⟩ = some (.slice (some ⟨b, o, none⟩) dn dc)) ∧ (w'.cell? ⟨b, o + k * 3, none⟩ = some (.int .i64 xa) ∧ w'.cell? ⟨b, o + k * 3 + 1, none⟩ = some (.int .i64 xb) ∧ w'.cell? ⟨b, o + k * 3 + 2, none⟩ = some (.int .i64 xs)) := fun w' g' => by
        have gg := (Grew.refl wr).drew.trans g'
        exact ⟨⟨gg.cell v0, gg.cell v1, gg.cell v2, gg.cell v3⟩, ⟨gg.cell c0, gg.cell c1, gg.cell c2⟩⟩
       refine wpAnyG_takes Grew.refl (fun _ _ _ => Grew.trans) (fun _ _ _ _ _ h => h) [0, 1, 2, 3, 4, 5, 6] (fuel' := 6) (by kernel_rfl) (by kernel_rfl) (by simp only [pickOps, ugT, ug0, ug1]; rfl) ?_
       repeat (first
        | (refine TakeAll.pure (v := ?_) (by rfl) ?_ ?_; rotate_left; (intro w' g'; obtain ⟨⟨p0, p1, p2, p3⟩, y0, y1, y2⟩ := hC w' g'; go_simp; first | done | with_reducible rfl); (simp only [Act.put, uzT, uz0, uz1]))
        | (refine TakeAll.skip (by rfl) ?_; (simp only [Act.put, uzT, uz0, uz1])))
       refine TakeAll.nil ?_
       refine wpAnyG_step (i := 7) (by kernel_rfl) (fuel' := 5) (by kernel_rfl) (by simp only [pickOps, ugT, ug0, ug1]; rfl) rfl ?_
       intro w3 g3 K hK
       have g3' := (Grew.refl wr).drew.trans g3
       refine wp_call 53 _ (by go_simp; first | done | rfl) ?_
       refine (rmin53 nm zb C cn cc ch ⟨xa, xb, xs⟩ w3 ((HCH2.out.grew HR.out).grew g3') T0.out).mono ?_
       rintro r w4 ⟨A5, m5, k5, er, rfl, her, g4⟩
       refine ⟨_, rfl, hK _ _ g4 ?_⟩
       clear hK K
       have HER := Lib.hid her
       have G4 := Lib.hid (HR.out.trans (g3'.trans g4))
       have g34 := g3'.trans g4
       clear her g3 hC
       simp only [Act.put, uzT, uz0, uz1]
       refine wpAnyG_takes Grew.refl (fun _ _ _ => Grew.trans) (fun _ _ _ _ _ h => h) [8, 9, 10, 11, 12] (fuel' := 0) (by kernel_rfl) (by kernel_rfl) (by simp only [pickOps, ugT, ug0, ug1]; rfl) ?_
       repeat (first
        | (refine TakeAll.pure (v := ?_) (by rfl) ?_ ?_; rotate_left; (intro w' g'; go_simp; first | done | with_reducible rfl); (simp only [Act.put, uzT, uz0, uz1]))
        | (refine TakeAll.skip (by rfl) ?_; (simp only [Act.put, uzT, uz0, uz1])))
       refine TakeAll.nil ?_
       refine wpAnyG_done (by kernel_rfl) ?_ _
       intro w5 g5
       have G5 := Lib.hid (G4.out.trans g5)
       clear v0 v1 v2 v3 c0 c1 c2 g3' g4 g34 G4 g5
       by_cases h0 : er = 0
       ·have HD1 := HER.out h0
        have q1 : (er == 0) = true := by simpa using h0
        have HK2 : Hid (∀ j x, j < k + 1 → ds[j]? = some x → dOk ⟨zb, ch⟩ x = true) := fun j x hj hx => by
         by_cases e : j < k
         ·exact HK.out j x e hx
         ·obtain rfl : j = k := by omega
          rw [HX.out] at hx; injection hx with hx; subst hx; exact HD1
        clear h0 HD1
        go_wp2_with fail
        go_roundw
        case rel => exact ⟨k + 1, by omega, by go_num, HK2, G5⟩
        case measure => simp [intOf]; omega
       ·have q1 : (er == 0) = false := by simpa using h0
        clear h0
        go_wp2
        go_ret
        exact ⟨false, rfl, (fun h => by cases h), HG.out.trans G5.out⟩
      ·obtain rfl : dn = k := by omega
       have HKD : Hid (ds.all (dOk ⟨zb, ch⟩) = true) := by
        unfold Hid
        rw [List.all_eq_true]
        intro x hx
        obtain ⟨j, hj, rfl⟩ := List.mem_iff_getElem.1 hx
        exact HK.out j _ (by rw [← HDS2.out.len]; exact hj) (List.getElem?_eq_getElem hj)
       have HWR := Lib.hid (HWS2.out.grew HR.out)
       have HGr := Lib.hid (HG.out.trans HR.out)
       have HN1 := Lib.hid hn1
       have HN2 := Lib.hid hn2
       clear v0 v1 v2 HK HDS2 HWS2 HG X2 HR hn1 hn2
       go_wp2_with fail
       go_loopw [6] (fun i y => ∃ k : Nat, k ≤ wn ∧ i = .int .i64 k ∧ Hid (∀ j x, j < k → ws[j]? = some x → wOk x = true) ∧ Hid (Grew wr y)) (fun i _ => wn - (intOf i).toNat)
       case atStart => exact ⟨0, Nat.zero_le _, rfl, fun j x h => by omega, Grew.refl _⟩
       case round =>
        obtain ⟨k, hk, rfl, HK, HR⟩ := hrel
        have x1 := HR.out.block X3.out
        have v4 : wr.cell? ⟨w.heap.size, 4, none⟩ = some (.slice W wn wc) := by simp [World.cell?, x1]
        clear x1 v3
        by_cases hlt : k < wn
        ·obtain ⟨b, o, x, hA, hx, ⟨c0, c1, c2, c3, c4⟩, hsp, _⟩ := (HWR.out.grew HR.out).at_ hlt
         subst hA
         have HX := Lib.hid hx
         have HSP := Lib.hid hsp
         clear hx hsp
         obtain ⟨xn, xs, xm, xw, xA, xc, xd, xl⟩ := x
         simp only at c0 c1 c2 c3 c4
         have e1 : (0 : Int) ≤ (k : Int) := by omega
         have e2 : (k : Int) < (wn : Int) := by omega
         obtain ⟨t5, ht5⟩ : ∃ t, wOk ⟨xn, xs, xm, xw, xA, xc, xd, xl⟩ = t := ⟨_, rfl⟩
         have T5 := Lib.hid ht5
         clear ht5
         go_wp2_with fail
         refine (rwrk54 ⟨xn, xs, xm, xw, xA, xc, xd, xl⟩ t5 _ HSP.out T5.out).mono ?_
         rintro r w3 ⟨rfl, g3⟩
         have G3 := Lib.hid (HR.out.trans g3)
         clear c0 c1 c2 c3 c4 v4 g3 HR
         cases t5 with
         | false =>
          go_wp2
          go_ret
          exact ⟨false, rfl, (fun h => by cases h), HGr.out.trans G3.out⟩
         | true =>
          have HK2 : Hid (∀ j x, j < k + 1 → ws[j]? = some x → wOk x = true) := fun j x hj hx => by
           by_cases e : j < k
           ·exact HK.out j x e hx
           ·obtain rfl : j = k := by omega
            rw [HX.out] at hx; injection hx with hx; subst hx; exact T5.out
          go_wp2_with fail
          go_roundw
          case rel => exact ⟨k + 1, by omega, by go_num, HK2, G3⟩
          case measure => simp [intOf]; omega
        ·obtain rfl : wn = k := by omega
         have HKW : Hid (ws.all wOk = true) := by
          unfold Hid
          rw [List.all_eq_true]
          intro x hx
          obtain ⟨j, hj, rfl⟩ := List.mem_iff_getElem.1 hx
          exact HK.out j _ (by rw [← HWR.out.len]; exact hj) (List.getElem?_eq_getElem hj)
         go_wp2
         go_ret
         refine ⟨true, rfl, fun _ => ?_, HGr.out.trans HR.out⟩
         rw [HPP.out]
         unfold planB Pl.z
         simp only
         rw [T0.out, decide_eq_true HN1.out, decide_eq_true HN2.out, HKD.out, HKW.out, T3.out]; rfl
   ·have q3 : ((12 : Int) < (wn : Int)) := by omega
    have q4 : (12 < wn) := by omega
    go_wp2
    go_ret
    exact ⟨false, rfl, (fun h => by cases h), G1⟩
  ·have q1 : ((24 : Int) < (dn : Int)) := by omega
   have q2 : (24 < dn) := by omega
   go_wp2
   go_ret
   exact ⟨false, rfl, (fun h => by cases h), G1⟩
end Go.Proofs.YtnnbibmmofnkdaaGreat
