/-
 The reference: the validity of a zone.
-/
import Derived.Test.YtnnbibmmofnkdaaGreatKit
import Derived.Test.YtnnbibmmofnkdaaGreatZoneA
import Derived.Test.YtnnbibmmofnkdaaGreatSetA
import Derived.Deep.QuietTactic
import Derived.BigQuiet
import Derived.Deep.Cut
import Derived.WalkSpells
import Derived.WalkLawsBesides
namespace Go.Proofs.YtnnbibmmofnkdaaGreat
open Go.RowKit Go.Proofs WageMem WageReg WageRec WageSpan WageTop
theorem apart104 (a b z : Int) (w : World) (h0 : -4000000000000000000 ≤ a) (h1 : a ≤ 4000000000000000000) (h2 : -4000000000000000000 ≤ b) (h3 : b ≤ 4000000000000000000) (h : max (a - b) (b - a) = z) : Calls Tryz.prog 104 #[.int .i64 a, .int .i64 b] w fun e w' => e = .returned (.int .i64 z) ∧ Grew w w' := by
 have HT := Lib.hid h
 clear h
 go_enter Tryz.func104, Tryz.ntmps104
 go_wp2
 all_goals (go_ret; refine ⟨congrArg (fun b => Ending.returned (Value.int .i64 b)) ?_, Grew.refl w⟩; have := HT.out; omega)
set_option maxHeartbeats 4000000 in
theorem rzvalid51 (nm : ByteArray) (b : Int) (C : Option Addr) (n c : Nat) (ch : List Sp) (w : World) (t : Bool) (hs : Spans w C n c ch) (ht : znB ⟨b, ch⟩ = t) : Calls Tryz.prog 51 #[.agg #[.string nm, .int .i64 b, .slice C n c]] w fun e w' => e = .returned (.bool t) ∧ Grew w w' := by
 have HS := Lib.hid hs
 have HT := Lib.hid ht
 have hn := hs.le
 have HL := Lib.hid hs.1
 clear hs ht
 unfold znB at HT
 obtain ⟨b1, hb1⟩ : ∃ x, x = w.heap.size := ⟨_, rfl⟩
 obtain ⟨w1, hw1⟩ : ∃ x, x = w.alloc (.cells #[.string nm, .int .i64 b, .slice C n c] 24) := ⟨_, rfl⟩
 have g1 : Grew w w1 := by rw [hw1]; exact (Grew.refl w).alloc _
 have z0 : w1.cell? ⟨b1, 1, none⟩ = some (.int .i64 b) := by rw [hw1, hb1]; simp
 have z1 : w1.cell? ⟨b1, 2, none⟩ = some (.slice C n c) := by rw [hw1, hb1]; simp
 go_enter Tryz.func51, Tryz.ntmps51
 go_upto_region 1 with (fail)
 rw [← hw1, ← hb1]
 clear hw1 hb1
 by_cases h1 : n ≤ 64
 rotate_left
 ·have q1 : decide ((n : Int) > 64) = true := decide_eq_true (by omega)
  have q1' : decide ((64 : Int) < (n : Int)) = true := decide_eq_true (by omega)
  have e : t = false := by rw [← HT.out]; simp [HL.out]; intro h; omega
  subst e
  clear h1
  go_wp2_with fail
  go_ret
  exact ⟨rfl, g1⟩
 have q1 : decide ((n : Int) > 64) = false := decide_eq_false (by omega)
 have q1' : decide ((64 : Int) < (n : Int)) = false := decide_eq_false (by omega)
 by_cases h2 : -840 ≤ b
 rotate_left
 ·have q2 : decide (b < -840) = true := decide_eq_true (by omega)
  have e : t = false := by rw [← HT.out]; simp; intro _ h; omega
  subst e
  clear h2 h1
  go_wp2_with fail
  go_ret
  exact ⟨rfl, g1⟩
 have q2 : decide (b < -840) = false := decide_eq_false (by omega)
 by_cases h3 : b ≤ 840
 rotate_left
 ·have q3 : decide (b > 840) = true := decide_eq_true (by omega)
  have q3' : decide (840 < b) = true := decide_eq_true (by omega)
  have e : t = false := by rw [← HT.out]; simp; intro _ h h'; omega
  subst e
  clear h3 h2 h1
  go_wp2_with fail
  go_ret
  exact ⟨rfl, g1⟩
 have q3 : decide (b > 840) = false := decide_eq_false (by omega)
 have q3' : decide (840 < b) = false := decide_eq_false (by omega)
 have HE : Hid (chB b none ch = t) := by unfold Hid; rw [← HT.out]; simp [HL.out, h1, h2, h3]
 go_wp2_with fail
 clear q1 q1' q2 q3 q3'
 have HZ0 := Lib.hid z0
 have HZ1 := Lib.hid z1
 replace HS := Lib.hid (HS.out.grew g1)
 clear z0 z1 HT
 go_loopw [3, 4] (fun v i y => ∃ (k : Nat) (off : Int) (pv : Option Int), k ≤ n ∧ v = .int .i64 off ∧ i = .int .i64 k ∧ (-840 ≤ off ∧ off ≤ 840) ∧ Hid (chB off pv (ch.drop k) = t) ∧ Hid ((k = 0 ∧ pv = none) ∨ (0 < k ∧ ∃ s : Sp, ch[k - 1]? = some s ∧ pv = some s.1 ∧ 0 ≤ s.1 ∧ s.1 ≤ 52595999)) ∧ Grew w1 y) (fun _ i _ => n - (intOf i).toNat)
 case atStart => exact ⟨0, b, none, Nat.zero_le _, rfl, rfl, ⟨h2, h3⟩, HE, .inl ⟨rfl, rfl⟩, Grew.refl _⟩
 case round =>
  clear HE h2 h3
  obtain ⟨k, off, pv, hk, rfl, rfl, ⟨ho1, ho2⟩, HE, HP, hg⟩ := hrel
  by_cases hlt : k < n
  ·obtain ⟨bc, oc, s, hC, hsk, s1, s2, ⟨l1, l2⟩, ⟨l3, l4⟩⟩ := (HS.out.grew hg).at_ hlt
   obtain ⟨a, o⟩ := s
   have k0 : (0 : Int) ≤ (k : Int) := by omega
   have k1 : (k : Int) < (n : Int) := by omega
   have HE2 : Hid (chB off pv ((a, o) :: ch.drop (k + 1)) = t) := by
    have h9 := HE.out
    obtain ⟨hj2, he2⟩ := List.getElem?_eq_some_iff.1 hsk
    rw [List.drop_eq_getElem_cons hj2, he2] at h9
    exact h9
   have HSK := Lib.hid hsk
   obtain ⟨z0, z1⟩ : wr.cell? ⟨b1, 1, none⟩ = some (.int .i64 b) ∧ wr.cell? ⟨b1, 2, none⟩ = some (.slice C n c) := ⟨hg.cell HZ0.out, hg.cell HZ1.out⟩
   subst hC
   obtain ⟨wx, hwx⟩ : ∃ y, y = wr.alloc (.cells #[.int .i64 a, .int .i64 o] 86) := ⟨_, rfl⟩
   have gx : Grew w1 wx := by rw [hwx]; exact hg.alloc _
   obtain ⟨bx, hbx⟩ : ∃ y, y = wr.heap.size := ⟨_, rfl⟩
   have x0 : wx.cell? ⟨bx, 0, none⟩ = some (.int .i64 a) := by rw [hwx, hbx]; simp
   have x1 : wx.cell? ⟨bx, 1, none⟩ = some (.int .i64 o) := by rw [hwx, hbx]; simp
   clear hsk HE
   simp only at s1 s2 l1 l2 l3 l4
   go_upto_region 8 with (fail)
   rw [← hwx, ← hbx]
   have X0 := Lib.hid ((Grew.refl wx).drew.cell x0)
   have X1 := Lib.hid ((Grew.refl wx).drew.cell x1)
   have HZx := Lib.hid ((Grew.refl wx).drew.cell (gx.cell HZ1.out))
   have HB := Lib.hid (gx.drew)
   clear s1 s2 z0 z1 hwx hbx x0 x1
   have HE3 : Hid ((decide (0 ≤ a ∧ a ≤ 52595999) && (gapB pv a && (decide (-840 ≤ o ∧ o ≤ 840) && (decide (o - off ≤ 60 ∧ off - o ≤ 60) && chB o (some a) (ch.drop (k + 1)))))) = t) := HE2
   clear HE2
   obtain ⟨t1, ht1⟩ : ∃ t, decide (0 ≤ a ∧ a ≤ 52595999) = t := ⟨_, rfl⟩
   have T1 := Lib.hid ht1
   rw [ht1] at HE3
   clear ht1
   have hk01 : k = 0 ∨ ∃ m, k = m + 1 := by
    cases k with
    | zero => exact .inl rfl
    | succ m => exact .inr ⟨m, rfl⟩
   have rap : ∀ w', -840 ≤ o → o ≤ 840 → Calls Tryz.prog 104 #[.int .i64 o, .int .i64 off] w' fun e w'' => e = .returned (.int .i64 (max (o - off) (off - o))) ∧ Grew w' w'' := fun w' q0 q1 => apart104 _ _ _ w' (by omega) (by omega) (by omega) (by omega) rfl
   rcases hk01 with rfl | ⟨m, rfl⟩
   ·have hpv : pv = none := by
     rcases HP.out with ⟨_, h⟩ | ⟨h, _⟩
     ·exact h
     ·exact absurd h (Nat.lt_irrefl 0)
    subst hpv
    have hC : ∀ w', Grew wx.drew w' → w'.cell? ⟨bx, 0, none⟩ = some (.int .i64 a) ∧ w'.cell? ⟨bx, 1, none⟩ = some (.int .i64 o) := fun w' g' => ⟨g'.cell X0.out, g'.cell X1.out⟩
    refine wp_region_seq (by kernel_rfl) Grew.refl (fun _ _ _ => Grew.trans) (fun _ _ _ _ _ h => h) (by kernel_rfl) ?_
    repeat' (first
     | (refine TakeAll.pure (v := ?_) (by rfl) ?_ ?_; rotate_left; (intro w' g'; obtain ⟨q_0, q_1⟩ := hC w' g'; go_simp; first | done | with_reducible rfl); (simp only [Act.put, uzT, uz0, uz1]))
     | (refine TakeAll.skip (by rfl) ?_; (simp only [Act.put, uzT, uz0, uz1]))
     | (refine TakeAll.call (by rfl) 103 _ (fun _ => by go_simp; first | done | rfl) (fun w' g' => instant103 _ _ w' T1.out) ?_; (simp only [Act.put, uzT, uz0, uz1]))
     | (refine TakeAll.call (by rfl) 104 _ (fun _ => by go_simp; first | done | rfl) (fun w' g' => rap w' (by omega) (by omega)) ?_; (simp only [Act.put, uzT, uz0, uz1]))
     | (refine TakeAll.part ?_ ?_ <;> (intro h; simp only [gvalB, ugT, ug0, ug1, Option.bind_some] at h; simp only [h]; (try simp at h)))
     | (refine TakeAll.nil ?_))
    all_goals clear hC
    all_goals (intro w5 g5; have x1 := g5.cell X1.out; have gE := (g1.trans gx.drew).trans g5; have gF := gx.drew.trans g5)
    all_goals (have w3' : wrap64 ((0 : Int) + 1) = (0 : Int) + 1 := wrap64_id (by omega) (by omega))
    all_goals go_wp2
    any_goals (go_ret; refine ⟨congrArg (fun b => Ending.returned (Value.bool b)) ?_, gE⟩; rw [← HE3.out]; first | (simp; omega) | (simp [*]; done) | (simp [gapB]; omega))
    all_goals go_roundw
    case rel =>
     refine ⟨0 + 1, o, some a, by omega, rfl, by go_num, ⟨by omega, by omega⟩, ?_, .inr ⟨by omega, (a, o), by simpa using HSK.out, rfl, ?_⟩, gF⟩
     ·unfold Hid
      have q1 : decide (-840 ≤ o ∧ o ≤ 840) = true := decide_eq_true (by omega)
      have q2 : decide (o - off ≤ 60 ∧ off - o ≤ 60) = true := decide_eq_true (by omega)
      have q3 : t1 = true := by assumption
      rw [← HE3.out, q1, q2, q3]; rfl
     ·have q3 : t1 = true := by assumption
      have := T1.out
      rw [q3] at this
      exact of_decide_eq_true this
    case measure => simp [intOf]; omega
   ·obtain ⟨h0, sp, hsp, hpv, p0, p1⟩ : 0 < m + 1 ∧ ∃ s : Sp, ch[m + 1 - 1]? = some s ∧ pv = some s.1 ∧ 0 ≤ s.1 ∧ s.1 ≤ 52595999 := by
     rcases HP.out with ⟨h, _⟩ | h
     ·omega
     ·exact h
    obtain ⟨bc', oc', s', hC', hsk', r1, r2, _, _⟩ := (HS.out.grew gx).at_ (show m < n by omega)
    injection hC' with hC'
    injection hC' with hC1 hC2
    subst hC1 hC2
    obtain rfl : sp = s' := by
     rw [show m + 1 - 1 = m by omega] at hsp
     rw [hsp] at hsk'
     injection hsk'
    obtain ⟨pa, po⟩ := sp
    subst hpv
    have R1 := Lib.hid ((Grew.refl wx).drew.cell r1)
    clear hsp hsk' r1 r2 h0
    simp only at p0 p1
    have e1 : IntKind.i64.wrap (m : Int) = (m : Int) := IntWalk.i64_in _ (by omega)
    have e3 : (0 : Int) ≤ (m : Int) := by omega
    have e4 : (m : Int) < (n : Int) := by omega
    have e2 : IntKind.i64.wrap (pa + 2880) = pa + 2880 := IntWalk.i64_in _ (by omega)
    have hC : ∀ w', Grew wx.drew w' → w'.cell? ⟨bx, 0, none⟩ = some (.int .i64 a) ∧ w'.cell? ⟨bx, 1, none⟩ = some (.int .i64 o) ∧ w'.cell? ⟨b1, 2, none⟩ = some (.slice (some ⟨bc, oc, none⟩) n c) ∧ w'.cell? ⟨bc, oc + m * 2, none⟩ = some (.int .i64 pa) := fun w' g' => ⟨g'.cell X0.out, g'.cell X1.out, g'.cell HZx.out, g'.cell R1.out⟩
    refine wp_region_seq (by kernel_rfl) Grew.refl (fun _ _ _ => Grew.trans) (fun _ _ _ _ _ h => h) (by kernel_rfl) ?_
    repeat' (first
     | (refine TakeAll.pure (v := ?_) (by rfl) ?_ ?_; rotate_left; (intro w' g'; obtain ⟨q_0, q_1, q_2, q_3⟩ := hC w' g'; go_simp; first | done | with_reducible rfl); (simp only [Act.put, uzT, uz0, uz1]))
     | (refine TakeAll.skip (by rfl) ?_; (simp only [Act.put, uzT, uz0, uz1]))
     | (refine TakeAll.call (by rfl) 103 _ (fun _ => by go_simp; first | done | rfl) (fun w' g' => instant103 _ _ w' T1.out) ?_; (simp only [Act.put, uzT, uz0, uz1]))
     | (refine TakeAll.call (by rfl) 104 _ (fun _ => by go_simp; first | done | rfl) (fun w' g' => rap w' (by omega) (by omega)) ?_; (simp only [Act.put, uzT, uz0, uz1]))
     | (refine TakeAll.part ?_ ?_ <;> (intro h; simp only [gvalB, ugT, ug0, ug1, Option.bind_some] at h; simp only [h]; (try simp at h)))
     | (refine TakeAll.nil ?_))
    all_goals clear hC
    all_goals (intro w5 g5; have x1 := g5.cell X1.out; have gE := (g1.trans gx.drew).trans g5; have gF := gx.drew.trans g5)
    all_goals (have w3' : wrap64 (((m + 1) : Int) + 1) = ((m + 1) : Int) + 1 := wrap64_id (by omega) (by omega))
    all_goals go_wp2
    any_goals (go_ret; refine ⟨congrArg (fun b => Ending.returned (Value.bool b)) ?_, gE⟩; rw [← HE3.out]; first | (simp; omega) | (simp [*]; done) | (simp [gapB]; omega))
    all_goals go_roundw
    case rel =>
     refine ⟨(m + 1) + 1, o, some a, by omega, rfl, by go_num, ⟨by omega, by omega⟩, ?_, .inr ⟨by omega, (a, o), by simpa using HSK.out, rfl, ?_⟩, gF⟩
     ·unfold Hid
      have q1 : decide (-840 ≤ o ∧ o ≤ 840) = true := decide_eq_true (by omega)
      have q2 : decide (o - off ≤ 60 ∧ off - o ≤ 60) = true := decide_eq_true (by omega)
      have q3 : t1 = true := by assumption
      rw [← HE3.out, q1, q2, q3]; rw [show gapB (some pa) a = true from decide_eq_true (by omega)]; rfl
     ·have q3 : t1 = true := by assumption
      have := T1.out
      rw [q3] at this
      exact of_decide_eq_true this
    case measure => simp [intOf]; omega
  ·obtain rfl : n = k := by omega
   have e : t = true := by
    have h9 := HE.out
    rw [List.drop_of_length_le (by rw [HL.out]; exact Nat.le_refl _)] at h9
    rw [← h9]; rfl
   subst e
   have z1 := hg.cell HZ1.out
   go_wp2_with fail
   go_ret
   exact ⟨rfl, g1.trans hg⟩
end Go.Proofs.YtnnbibmmofnkdaaGreat
