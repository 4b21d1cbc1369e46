/-
 Zones.
-/
import Derived.Test.YtnnbibmmofnkdaaGreatSmall
import Derived.Test.YtnnbibmmofnkdaaGreatSetA
import Derived.Test.YtnnbibmmofnkdaaGreatKit
import Derived.Deep.QuietTactic
import Derived.BigQuiet
import Derived.Deep.Cut
import Derived.WalkSpells
import Derived.WalkLawsBesides
import Derived.RangeFuncNested
import Derived.RangeFuncBound
import Derived.RangeFuncCalls
import Derived.RangeFuncLeaves
import Derived.Shelf.Abstract
import Derived.Shelf.RegionOpen
import Derived.WalkKit
import Derived.OwnWalkIn
import Derived.TacticsInMore
import Derived.LoopNIn
import Derived.LoopIn
namespace Go.Proofs.YtnnbibmmofnkdaaGreat
open Go.RowKit Go.Proofs WageMem
theorem tdiv_floor (a : Int) : (a.tmod 1440 < 0 → a.tdiv 1440 - 1 = a / 1440) ∧ (¬ a.tmod 1440 < 0 → a.tdiv 1440 = a / 1440) := by
 rcases Int.le_total 0 a with h | h
 ·have h1 : a.tmod 1440 = a % 1440 := Int.tmod_eq_emod_of_nonneg h
  have h2 : a.tdiv 1440 = a / 1440 := Int.tdiv_eq_ediv_of_nonneg h
  rw [h1, h2]
  exact ⟨fun h => by omega, fun _ => rfl⟩
 ·obtain ⟨b, rfl⟩ : ∃ b, a = -b := ⟨-a, by omega⟩
  have hb : 0 ≤ b := by omega
  rw [Int.neg_tmod, Int.neg_tdiv, Int.tmod_eq_emod_of_nonneg hb, Int.tdiv_eq_ediv_of_nonneg hb]
  exact ⟨fun h => by omega, fun h => by omega⟩
theorem floor85 (a z : Int) (w : World) (h0 : -9000000000000000000 ≤ a) (h1 : a ≤ 9000000000000000000) (h : a / 1440 = z) : Calls Tryz.prog 85 #[.int .i64 a, .int .i64 1440] w fun e w' => e = .returned (.int .i64 z) ∧ w' = w := by
 subst h
 have hf := tdiv_floor a
 by_cases hm : a.tmod 1440 < 0
 ·have q : decide (a.tmod 1440 < 0) = true := decide_eq_true hm
  have hz := hf.1 hm
  obtain ⟨d, hd⟩ : ∃ d, a.tdiv 1440 = d := ⟨_, rfl⟩
  have e : wrap64 d = d := wrap64_id (by rw [← hd]; omega) (by rw [← hd]; omega)
  have e1 : wrap64 (d - 1) = d - 1 := wrap64_id (by rw [← hd]; omega) (by rw [← hd]; omega)
  rw [hd] at hz
  have e2 : d - 1 = a / 1440 := hz
  clear hf hm hz
  go_enter Tryz.func85, Tryz.ntmps85
  go_wp2_with fail
  go_ret
  exact ⟨by rw [← e2]; rfl, rfl⟩
 ·have q : decide (a.tmod 1440 < 0) = false := decide_eq_false hm
  have hz := hf.2 hm
  obtain ⟨d, hd⟩ : ∃ d, a.tdiv 1440 = d := ⟨_, rfl⟩
  have e : wrap64 d = d := wrap64_id (by rw [← hd]; omega) (by rw [← hd]; omega)
  rw [hd] at hz
  clear hf hm
  go_enter Tryz.func85, Tryz.ntmps85
  go_wp2_with fail
  go_ret
  exact ⟨by rw [← hz]; rfl, rfl⟩
end Go.Proofs.YtnnbibmmofnkdaaGreat
namespace Go.Proofs.YtnnbibmmofnkdaaGreat
open Go.RowKit Go.Proofs WageMem WageReg WageRec WageSpan WageTop
set_option maxHeartbeats 4000000 in
theorem zvalid12 (nm : ByteArray) (b : Int) (C : Option Addr) (n c : Nat) (ch : List Sp) (w : World) (t : Bool) (hs : Spans w C n c ch) (ht : znB ⟨b, ch⟩ = t) : Calls Tryz.prog 12 #[.agg #[.string nm, .int .i64 b, .slice C n c]] w fun e w' => e = .returned (.bool t) ∧ Grew w w' := by
 have HS := Lib.hid hs
 have HT := Lib.hid ht
 have hn := hs.le
 have HL := Lib.hid hs.1
 clear hs ht
 unfold znB at HT
 obtain ⟨b1, hb1⟩ : ∃ x, x = w.heap.size := ⟨_, rfl⟩
 obtain ⟨w1, hw1⟩ : ∃ x, x = w.alloc (.cells #[.string nm, .int .i64 b, .slice C n c] 24) := ⟨_, rfl⟩
 have g1 : Grew w w1 := by rw [hw1]; exact (Grew.refl w).alloc _
 have z0 : w1.cell? ⟨b1, 1, none⟩ = some (.int .i64 b) := by rw [hw1, hb1]; simp
 have z1 : w1.cell? ⟨b1, 2, none⟩ = some (.slice C n c) := by rw [hw1, hb1]; simp
 go_enter Tryz.func12, Tryz.ntmps12
 go_upto_region 1 with (fail)
 rw [← hw1, ← hb1]
 clear hw1 hb1
 by_cases h1 : n ≤ 64
 rotate_left
 ·have q1 : decide ((n : Int) > 64) = true := decide_eq_true (by omega)
  have q1' : decide ((64 : Int) < (n : Int)) = true := decide_eq_true (by omega)
  have e : t = false := by rw [← HT.out]; simp [HL.out]; intro h; omega
  subst e
  clear h1
  go_wp2_with fail
  go_ret
  exact ⟨rfl, g1⟩
 have q1 : decide ((n : Int) > 64) = false := decide_eq_false (by omega)
 have q1' : decide ((64 : Int) < (n : Int)) = false := decide_eq_false (by omega)
 by_cases h2 : -840 ≤ b
 rotate_left
 ·have q2 : decide (b < -840) = true := decide_eq_true (by omega)
  have e : t = false := by rw [← HT.out]; simp; intro _ h; omega
  subst e
  clear h2 h1
  go_wp2_with fail
  go_ret
  exact ⟨rfl, g1⟩
 have q2 : decide (b < -840) = false := decide_eq_false (by omega)
 by_cases h3 : b ≤ 840
 rotate_left
 ·have q3 : decide (b > 840) = true := decide_eq_true (by omega)
  have q3' : decide (840 < b) = true := decide_eq_true (by omega)
  have e : t = false := by rw [← HT.out]; simp; intro _ h h'; omega
  subst e
  clear h3 h2 h1
  go_wp2_with fail
  go_ret
  exact ⟨rfl, g1⟩
 have q3 : decide (b > 840) = false := decide_eq_false (by omega)
 have q3' : decide (840 < b) = false := decide_eq_false (by omega)
 have HE : Hid (chB b none ch = t) := by unfold Hid; rw [← HT.out]; simp [HL.out, h1, h2, h3]
 go_wp2_with fail
 clear q1 q1' q2 q3 q3'
 have HZ0 := Lib.hid z0
 have HZ1 := Lib.hid z1
 replace HS := Lib.hid (HS.out.grew g1)
 clear z0 z1 HT
 go_loopw [3, 25] (fun v i y => ∃ (k : Nat) (off : Int) (pv : Option Int), k ≤ n ∧ v = .int .i64 off ∧ i = .int .i64 k ∧ (-840 ≤ off ∧ off ≤ 840) ∧ Hid (chB off pv (ch.drop k) = t) ∧ Hid ((k = 0 ∧ pv = none) ∨ (0 < k ∧ ∃ s : Sp, ch[k - 1]? = some s ∧ pv = some s.1 ∧ 0 ≤ s.1 ∧ s.1 ≤ 52595999)) ∧ Grew w1 y) (fun _ i _ => n - (intOf i).toNat)
 case atStart => exact ⟨0, b, none, Nat.zero_le _, rfl, rfl, ⟨h2, h3⟩, HE, .inl ⟨rfl, rfl⟩, Grew.refl _⟩
 case round =>
  clear HE h2 h3
  obtain ⟨k, off, pv, hk, rfl, rfl, ⟨ho1, ho2⟩, HE, HP, hg⟩ := hrel
  by_cases hlt : k < n
  ·obtain ⟨bc, oc, s, hC, hsk, s1, s2, ⟨l1, l2⟩, ⟨l3, l4⟩⟩ := (HS.out.grew hg).at_ hlt
   obtain ⟨a, o⟩ := s
   have k0 : (0 : Int) ≤ (k : Int) := by omega
   have k1 : (k : Int) < (n : Int) := by omega
   have HE2 : Hid (chB off pv ((a, o) :: ch.drop (k + 1)) = t) := by
    have h9 := HE.out
    obtain ⟨hj2, he2⟩ := List.getElem?_eq_some_iff.1 hsk
    rw [List.drop_eq_getElem_cons hj2, he2] at h9
    exact h9
   have HSK := Lib.hid hsk
   obtain ⟨z0, z1⟩ : wr.cell? ⟨b1, 1, none⟩ = some (.int .i64 b) ∧ wr.cell? ⟨b1, 2, none⟩ = some (.slice C n c) := ⟨hg.cell HZ0.out, hg.cell HZ1.out⟩
   subst hC
   obtain ⟨wx, hwx⟩ : ∃ y, y = wr.alloc (.cells #[.int .i64 a, .int .i64 o] 86) := ⟨_, rfl⟩
   have gx : Grew w1 wx := by rw [hwx]; exact hg.alloc _
   obtain ⟨bx, hbx⟩ : ∃ y, y = wr.heap.size := ⟨_, rfl⟩
   have x0 : wx.cell? ⟨bx, 0, none⟩ = some (.int .i64 a) := by rw [hwx, hbx]; simp
   have x1 : wx.cell? ⟨bx, 1, none⟩ = some (.int .i64 o) := by rw [hwx, hbx]; simp
   clear hsk HE
   simp only at s1 s2 l1 l2 l3 l4
   go_upto_region 7 with (fail)
   rw [← hwx, ← hbx]
   clear s1 s2 z0 z1 hwx hbx
   go_upto_region 9 with (fail)
   any_goals (go_ret; refine ⟨congrArg (fun b => Ending.returned (Value.bool b)) ?_, g1.trans gx⟩; rw [← HE2.out]; unfold chB; simp; omega)
   obtain ⟨a0, a1⟩ : 0 ≤ a ∧ a ≤ 52595999 := by assumption
   have X0 := Lib.hid x0
   have X1 := Lib.hid x1
   clear x0 x1
   have HZx := Lib.hid (gx.cell HZ1.out)
   have HE3 : Hid ((gapB pv a && (decide (-840 ≤ o ∧ o ≤ 840) && (decide (o - off ≤ 60 ∧ off - o ≤ 60) && chB o (some a) (ch.drop (k + 1))))) = t) := by
    have h9 := HE2.out
    unfold chB at h9
    rw [decide_eq_true (show 0 ≤ a ∧ a ≤ 52595999 from ⟨a0, a1⟩), Bool.true_and] at h9
    exact h9
   clear HE2
   have XC := Lib.hid ((Grew.refl wx).drew.cell HZx.out)
   have hk01 : k = 0 ∨ ∃ m, k = m + 1 := by
    cases k with
    | zero => exact .inl rfl
    | succ m => exact .inr ⟨m, rfl⟩
   replace X0 := Lib.hid ((Grew.refl wx).drew.cell X0.out)
   replace X1 := Lib.hid ((Grew.refl wx).drew.cell X1.out)
   rcases hk01 with rfl | ⟨m, rfl⟩
   ·have hpv : pv = none := by
     rcases HP.out with ⟨_, h⟩ | ⟨h, _⟩
     ·exact h
     ·exact absurd h (Nat.lt_irrefl 0)
    subst hpv
    have hC : ∀ w', Grew wx.drew w' → w'.cell? ⟨bx, 0, none⟩ = some (.int .i64 a) := fun w' g' => g'.cell X0.out
    refine wp_region_seq (by kernel_rfl) Grew.refl (fun _ _ _ => Grew.trans) (fun _ _ _ _ _ h => h) (by kernel_rfl) ?_
    repeat' (first
     | (refine TakeAll.pure (v := ?_) (by rfl) ?_ ?_; rotate_left; (intro w' g'; obtain q_0 := hC w' g'; go_simp; first | done | with_reducible rfl); (simp only [Act.put, uzT, uz0, uz1]))
     | (refine TakeAll.skip (by rfl) ?_; (simp only [Act.put, uzT, uz0, uz1]))
     | (refine TakeAll.part ?_ ?_ <;> (intro h; simp only [gvalB, ugT, ug0, ug1, Option.bind_some] at h; simp only [h]; (try simp at h)))
     | (refine TakeAll.nil ?_))
    all_goals clear hC
    all_goals (intro w5 g5; have x0 := g5.cell X0.out; have x1 := g5.cell X1.out; have gE := (g1.trans gx.drew).trans g5; have gF := gx.drew.trans g5)
    all_goals (have w3' : wrap64 ((0 : Int) + 1) = (0 : Int) + 1 := wrap64_id (by omega) (by omega))
    all_goals (go_upto_region 13 with (fail))
    any_goals (go_ret; refine ⟨congrArg (fun b => Ending.returned (Value.bool b)) ?_, gE⟩; rw [← HE3.out]; first | (simp; omega) | (simp [*]; done) | (simp [gapB]; omega))
    all_goals (have v1' : wrap64 (o - off) = o - off := wrap64_id (by omega) (by omega))
    all_goals (have v2' : wrap64 (off - o) = off - o := wrap64_id (by omega) (by omega))
    all_goals go_wp2
    any_goals (go_ret; refine ⟨congrArg (fun b => Ending.returned (Value.bool b)) ?_, gE⟩; rw [← HE3.out]; first | (simp; omega) | (simp [*]; done) | (simp [gapB]; omega))
    all_goals go_roundw
    case rel =>
     refine ⟨0 + 1, o, some a, by omega, rfl, by go_num, ⟨by omega, by omega⟩, ?_, .inr ⟨by omega, (a, o), by simpa using HSK.out, rfl, a0, a1⟩, gF⟩
     unfold Hid
     have q1 : decide (-840 ≤ o ∧ o ≤ 840) = true := decide_eq_true (by omega)
     have q2 : decide (o - off ≤ 60 ∧ off - o ≤ 60) = true := decide_eq_true (by omega)
     rw [← HE3.out, q1, q2]; rfl
    case measure => simp [intOf]; omega
   ·skip
    obtain ⟨h0, sp, hsp, hpv, p0, p1⟩ : 0 < m + 1 ∧ ∃ s : Sp, ch[m + 1 - 1]? = some s ∧ pv = some s.1 ∧ 0 ≤ s.1 ∧ s.1 ≤ 52595999 := by
     rcases HP.out with ⟨h, _⟩ | h
     ·omega
     ·exact h
    obtain ⟨bc', oc', s', hC', hsk', r1, r2, _, _⟩ := (HS.out.grew gx).at_ (show m < n by omega)
    injection hC' with hC'
    injection hC' with hC1 hC2
    subst hC1 hC2
    obtain rfl : sp = s' := by
     rw [show m + 1 - 1 = m by omega] at hsp
     rw [hsp] at hsk'
     injection hsk'
    obtain ⟨pa, po⟩ := sp
    subst hpv
    have R1 := Lib.hid ((Grew.refl wx).drew.cell r1)
    clear hsp hsk' r1 r2 h0
    simp only at p0 p1
    have e3 : (0 : Int) ≤ (m : Int) := by omega
    have e4 : (m : Int) < (n : Int) := by omega
    have e1 : IntKind.i64.wrap (m : Int) = (m : Int) := IntWalk.i64_in _ (by omega)
    have e2 : IntKind.i64.wrap (a - pa) = a - pa := IntWalk.i64_in _ (by omega)
    have hC : ∀ w', Grew wx.drew w' → w'.cell? ⟨bx, 0, none⟩ = some (.int .i64 a) ∧ w'.cell? ⟨b1, 2, none⟩ = some (.slice (some ⟨bc, oc, none⟩) n c) ∧ w'.cell? ⟨bc, oc + m * 2, none⟩ = some (.int .i64 pa) := fun w' g' => ⟨g'.cell X0.out, g'.cell XC.out, g'.cell R1.out⟩
    refine wp_region_seq (by kernel_rfl) Grew.refl (fun _ _ _ => Grew.trans) (fun _ _ _ _ _ h => h) (by kernel_rfl) ?_
    repeat' (first
     | (refine TakeAll.pure (v := ?_) (by rfl) ?_ ?_; rotate_left; (intro w' g'; obtain ⟨q_0, q_1, q_2⟩ := hC w' g'; go_simp; first | done | with_reducible rfl); (simp only [Act.put, uzT, uz0, uz1]))
     | (refine TakeAll.skip (by rfl) ?_; (simp only [Act.put, uzT, uz0, uz1]))
     | (refine TakeAll.part ?_ ?_ <;> (intro h; simp only [gvalB, ugT, ug0, ug1, Option.bind_some] at h; simp only [h]; (try simp at h)))
     | (refine TakeAll.nil ?_))
    all_goals clear hC
    all_goals (intro w5 g5; have x0 := g5.cell X0.out; have x1 := g5.cell X1.out; have gE := (g1.trans gx.drew).trans g5; have gF := gx.drew.trans g5)
    all_goals clear e1 e2 e3 e4
    all_goals (have w3' : wrap64 (((m + 1) : Int) + 1) = ((m + 1) : Int) + 1 := wrap64_id (by omega) (by omega))
    all_goals (go_upto_region 13 with (fail))
    any_goals (go_ret; refine ⟨congrArg (fun b => Ending.returned (Value.bool b)) ?_, gE⟩; rw [← HE3.out]; first | (simp; omega) | (simp [*]; done) | (simp [gapB]; omega))
    all_goals (have v1' : wrap64 (o - off) = o - off := wrap64_id (by omega) (by omega))
    all_goals (have v2' : wrap64 (off - o) = off - o := wrap64_id (by omega) (by omega))
    all_goals go_wp2
    any_goals (go_ret; refine ⟨congrArg (fun b => Ending.returned (Value.bool b)) ?_, gE⟩; rw [← HE3.out]; first | (simp; omega) | (simp [*]; done) | (simp [gapB]; omega))
    all_goals go_roundw
    case rel =>
     refine ⟨(m + 1) + 1, o, some a, by omega, rfl, by go_num, ⟨by omega, by omega⟩, ?_, .inr ⟨by omega, (a, o), by simpa using HSK.out, rfl, a0, a1⟩, gF⟩
     unfold Hid
     have q1 : decide (-840 ≤ o ∧ o ≤ 840) = true := decide_eq_true (by omega)
     have q2 : decide (o - off ≤ 60 ∧ off - o ≤ 60) = true := decide_eq_true (by omega)
     rw [← HE3.out, q1, q2]; rw [show gapB (some pa) a = true from decide_eq_true (by omega)]; rfl
    case measure => simp [intOf]; omega
  ·obtain rfl : n = k := by omega
   have e : t = true := by
    have h9 := HE.out
    rw [List.drop_of_length_le (by rw [HL.out]; exact Nat.le_refl _)] at h9
    rw [← h9]; rfl
   subst e
   go_wp2_with fail
   go_ret
   exact ⟨rfl, g1.trans hg⟩
end Go.Proofs.YtnnbibmmofnkdaaGreat
namespace Go.Proofs.YtnnbibmmofnkdaaGreat
open Go.RowKit Go.Proofs WageMem WageReg WageRec WageSpan WageTop
theorem check83 {nm : ByteArray} {b : Int} {C : Option Addr} {n c : Nat} {ch : List Sp} {f e : Int} {w : World} {t : Bool} (hs : Spans w C n c ch) (hf : -9223372036854775808 ≤ f ∧ f ≤ 9223372036854775807) (he : -9223372036854775808 ≤ e ∧ e ≤ 9223372036854775807)
  (ht : (znB ⟨b, ch⟩ && decide (0 ≤ f ∧ f ≤ e ∧ e ≤ 52596000)) = t) : Calls Tryz.prog 83 #[.agg #[.string nm, .int .i64 b, .slice C n c], .int .i64 f, .int .i64 e] w fun r w' => r = .returned (.bool t) ∧ Grew w w' := by
 have HT := Lib.hid ht
 obtain ⟨t1, ht1⟩ : ∃ t, znB ⟨b, ch⟩ = t := ⟨_, rfl⟩
 have T1 := Lib.hid ht1
 have ga : Grew w (w.alloc (.cells #[.string nm, .int .i64 b, .slice C n c] 24)) := (Grew.refl w).alloc _
 have HS := Lib.hid (hs.grew ga)
 clear ht ht1 hs
 go_enter Tryz.func83, Tryz.ntmps83
 go_wp2_with fail
 refine (zvalid12 _ _ _ _ _ _ _ t1 HS.out T1.out).mono ?_
 rintro r w1 ⟨rfl, g⟩
 cases t1 with
 | false =>
  go_wp2
  all_goals (go_ret; refine ⟨congrArg (fun b => Ending.returned (Value.bool b)) ?_, ga.trans g⟩; rw [← HT.out, T1.out]; rfl)
 | true =>
  go_wp2
  all_goals (go_ret; refine ⟨congrArg (fun b => Ending.returned (Value.bool b)) ?_, ga.trans g⟩; rw [← HT.out, T1.out, Bool.true_and]; first | (refine (decide_eq_false ?_).symm; omega) | (refine (decide_eq_true ?_).symm; omega) | (refine decide_eq_decide.2 ?_; omega))
/-- The minutes from f to e of a day that lie in a window. -/
def winF (f e a b : Int) : Int := if b < a then max (e - max f a) 0 + max (min e b - f) 0 else max (min e b - max f a) 0
theorem within142 {f e a b z : Int} {w : World} (hf : 0 ≤ f ∧ f ≤ 1440) (he : 0 ≤ e ∧ e ≤ 1440) (ha : 0 ≤ a ∧ a ≤ 1440) (hb : 0 ≤ b ∧ b ≤ 1440) (h : winF f e a b = z) :
  Calls Tryz.prog 142 #[.int .i64 f, .int .i64 e, .agg #[.int .i64 a, .int .i64 b]] w fun r w' => r = .returned (.int .i64 z) ∧ Grew w w' := by
 have HT := Lib.hid h
 clear h
 obtain ⟨hf1, hf2⟩ := hf
 obtain ⟨he1, he2⟩ := he
 obtain ⟨ha1, ha2⟩ := ha
 obtain ⟨hb1, hb2⟩ := hb
 unfold winF at HT
 by_cases hc : b < a
 ·have hc' : decide (b < a) = true := decide_eq_true hc
  go_enter Tryz.func142, Tryz.ntmps142
  go_wp2
  all_goals (go_ret; refine ⟨congrArg (fun b => Ending.returned (Value.int .i64 b)) ?_, (Grew.refl w).alloc _⟩; have := HT.out; rw [if_pos (by omega)] at this; omega)
 ·have hc' : decide (b < a) = false := decide_eq_false hc
  go_enter Tryz.func142, Tryz.ntmps142
  go_wp2
  all_goals (go_ret; refine ⟨congrArg (fun b => Ending.returned (Value.int .i64 b)) ?_, (Grew.refl w).alloc _⟩; have := HT.out; rw [if_neg (by omega)] at this; omega)
theorem stretches84 (v : Value) (x y : Int) (w : World) (nm : ByteArray) (b : Int) (C : Option Addr) (n c : Nat) (hv : v = .agg #[.string nm, .int .i64 b, .slice C n c]) : Calls Tryz.prog 84 #[v, .int .i64 x, .int .i64 y] w fun r w' =>
  r = .returned (.func (.func 117) #[] #[.pointer (some ⟨w.heap.size, 0, none⟩), .pointer (some ⟨w.heap.size + 1 + 1, 0, none⟩), .pointer (some ⟨w.heap.size + 1, 0, none⟩)]) ∧
   w' = ((w.alloc (.cells #[.string nm, .int .i64 b, .slice C n c] 24)).alloc (.cells #[.int .i64 x] 3)).alloc (.cells #[.int .i64 y] 3) := by
 subst hv
 go_enter Tryz.func84, Tryz.ntmps84
 go_wp2_with fail
 go_ret
 exact ⟨rfl, rfl⟩
end Go.Proofs.YtnnbibmmofnkdaaGreat
namespace Go.Proofs.YtnnbibmmofnkdaaGreat
open Go.RowKit Go.Shelf Go.Proofs WageMem WageReg WageRec WageSpan WageTop
attribute [local go_sem] Oper.semAt_some
theorem spans_keep {G : Nat → Prop} {W W' : World} {A : Option Addr} {n c : Nat} {l : List Sp} (h : Spans W A n c l) (k : KeepB G W W') (hG : ∀ b o, A = some ⟨b, o, none⟩ → 0 < n → G b) : Spans W' A n c l := ⟨h.1, KeepB.sl h.2.1 k hG, h.2.2⟩
theorem str_cons (a o off f t : Int) (l : List (Int × Int)) : strG ((a, o) :: l) off f t = if f < min a t then (f, min a t, off) :: strG l o (min a t) t else strG l o f t := rfl
theorem spans_set {W : World} {A : Option Addr} {n c : Nat} {l : List Sp} (h : Spans W A n c l) {bf : Nat} {v : Value} (hG : ∀ b o, A = some ⟨b, o, none⟩ → 0 < n → b ≠ bf) : Spans (W.setCell ⟨bf, 0, none⟩ v) A n c l :=
 spans_keep (G := (· ≠ bf)) h (KeepB.set W v (by simp)) hG
theorem Boxed2.new (W : World) (t : TypeId) (u v : Value) : (W.alloc (.cells #[u, v] t)).cell? ⟨W.heap.size, 0, none⟩ = some u ∧ (W.alloc (.cells #[u, v] t)).cell? ⟨W.heap.size, 1, none⟩ = some v := by simp
def stE (x : Int × Int × Int) : Array Value := #[.agg #[.int .i64 x.1, .int .i64 x.2.1], .int .i64 x.2.2]
set_option maxRecDepth 100000 in
set_option maxHeartbeats 4000000 in
theorem stretch_runs (m bz bt bf : Nat) (b : Int) (C : Option Addr) (n c : Nat) (ch : List Sp) (f0 t0 : Int) (G : Nat → Prop) (W : World)
  (h1 : W.cell? ⟨bz, 1, none⟩ = some (.int .i64 b)) (h2 : W.cell? ⟨bz, 2, none⟩ = some (.slice C n c)) (h3 : W.cell? ⟨bt, 0, none⟩ = some (.int .i64 t0)) (h4 : Boxed W bf 3 (.int .i64 f0)) (hB : Spans W C n c ch)
  (hne : bt ≠ bf) (hCf : ∀ b o, C = some ⟨b, o, Option.none⟩ → 0 < n → b ≠ bf) (hG1 : G bt) (hG2 : G bf) (hGC : ∀ b o, C = some ⟨b, o, Option.none⟩ → 0 < n → G b) (hGn : ∀ k, W.heap.size ≤ k → G k)
  (bf1 : -9000000000000000000 ≤ f0) (bf2 : f0 ≤ 9000000000000000000) (bt1 : -9000000000000000000 ≤ t0) (bt2 : t0 ≤ 9000000000000000000) :
  IterRunsV Fence.wide m Tryz.prog 117 #[.pointer (some ⟨bz, 0, none⟩), .pointer (some ⟨bt, 0, none⟩), .pointer (some ⟨bf, 0, none⟩)] stE (StepZ bf) (KeepB G) (· = strG ch b f0 t0) (· ∈ strG ch b f0 t0) (strG ch b f0 t0).length W := by
 intro l J hJ hY h0
 have hn : n ≤ 9223372036854775807 := hB.le
 have HL := Lib.hid hB.1
 have HGC := Lib.hid hGC
 have HCf := Lib.hid hCf
 have HGN := Lib.hid hGn
 have HS := Lib.hid hB
 have HBX := Lib.hid h4
 have hfl := h4.lt
 have c4 := h4.cell
 obtain ⟨L, hL⟩ : ∃ L, L = strG ch b f0 t0 := ⟨_, rfl⟩
 have HLL := Lib.hid hL
 rw [← hL] at hY ⊢
 have HY := Lib.hid hY
 clear hL hGC hCf hGn hB h4 hY
 refine callsIn_of_wp Tryz.func117 rfl trivial ?_ rfl
 simp only [Tryz.ntmps117, List.size_toArray, List.length_cons, List.length_nil, Nat.reduceAdd, Nat.reduceSub, Array.replicate_succ, Array.replicate_zero, List.push_toArray, List.append_toArray, List.nil_append, List.cons_append]
 gi_wp2
 clear h1 h2 c4
 gi_loopw [5, 14] (fun v i wr => ∃ (k : Nat) (o f : Int) (pre : List (Int × Int × Int)), k ≤ n ∧ v = .int .i64 o ∧ i = .int .i64 k ∧ (-9223372036854775808 ≤ f ∧ f ≤ 9223372036854775807) ∧ wr.cell? ⟨bt, 0, none⟩ = some (.int .i64 t0) ∧ Hid (Boxed wr bf 3 (.int .i64 f)) ∧ Hid (Spans wr C n c ch) ∧ Hid (pre ++ strG (ch.drop k) o f t0 = L) ∧ W.heap.size ≤ wr.heap.size ∧ J pre wr)
  (fun _ i _ => n - (intOf i).toNat)
 case atStart => exact ⟨0, b, f0, [], Nat.zero_le _, rfl, rfl, ⟨by omega, by omega⟩, h3, HBX, HS, HLL.out.symm, Nat.le_refl _, h0⟩
 case round =>
  clear h0 h3 HBX HS HLL bf1 bf2
  obtain ⟨k, o, f, pre, hk, rfl, rfl, ⟨bf1, bf2⟩, c3, HBX, HS, HP, hWs, hj⟩ := hrel
  have c4 := HBX.out.cell
  by_cases hlt : k < n
  ·obtain ⟨bc, oc, s, hAx, hx, s1, s2, ⟨q1, q2⟩, ⟨q3, q4⟩⟩ := HS.out.at_ hlt
   obtain ⟨a, o'⟩ := s
   simp only at s1 s2 q1 q2 q3 q4
   have HD : Hid (pre ++ (if f < min a t0 then (f, min a t0, o) :: strG (ch.drop (k + 1)) o' (min a t0) t0 else strG (ch.drop (k + 1)) o' f t0) = L) := by
    unfold Hid
    obtain ⟨hj2, he2⟩ := List.getElem?_eq_some_iff.1 hx
    rw [← HP.out, List.drop_eq_getElem_cons hj2, he2, str_cons]
   have k0 : (0 : Int) ≤ (k : Int) := by omega
   have k1 : (k : Int) < (n : Int) := by omega
   have ga : Grew wr (wr.alloc (.cells #[.int .i64 a, .int .i64 o'] 86)) := (Grew.refl wr).alloc _
   have d3 := ga.cell c3
   have d4 := ga.cell c4
   have HBXa := Lib.hid (ga.block HBX.out)
   have HSa := Lib.hid (HS.out.grew ga)
   have hja := hJ _ _ _ hj (StepZ.grew ga (Nat.le_of_lt HBX.out.lt))
   subst hAx
   clear hx c3 c4 hj HS HP ga
   by_cases hm : t0 < a
   ·have hmin : min a t0 = t0 := by omega
    have qm : decide (t0 < a) = true := decide_eq_true hm
    rw [hmin] at HD
    clear hmin
    by_cases hf : f < t0
    ·rw [if_pos hf] at HD
     have hlen : pre.length < L.length := by rw [← HD.out]; simp
     have hmem : (f, t0, o) ∈ L := by rw [← HD.out]; simp
     have hY' := HY.out pre (f, t0, o) _ hja hmem hlen
     obtain ⟨fn, tmps, assign, body, hy, hR⟩ := hY'
     simp only [stE] at hy
     have qf : decide (f < t0) = true := decide_eq_true hf
     have HX := Lib.hid (((Boxed2.new wr 86 (.int .i64 a) (.int .i64 o'))))
     have hsz : W.heap.size ≤ wr.heap.size + 1 := by omega
     clear hlen hmem hja
     gi_wp2
     refine ⟨(fun h => by cases h), ?_⟩
     refine hR.mono ?_
     rintro r W3 ⟨rfl, hj3, hk3⟩
     have e3 := hk3.cell hG1 d3
     have HBX3 := Lib.hid (hk3.boxed hG2 HBXa.out)
     have e4 := HBX3.out.frozen
     have e5 := HBX3.out.cell
     have HS3 := Lib.hid (spans_keep HSa.out hk3 HGC.out)
     have f1 := hk3.cell (p := ⟨wr.heap.size, 1, none⟩) (HGN.out _ hWs) HX.out.2
     have hs3 : W.heap.size ≤ W3.heap.size := Nat.le_trans hsz (Nat.le_trans (by simp) hk3.1)
     have hj4 := hJ _ _ _ hj3 (StepZ.set W3 (.int .i64 t0))
     have HBX4 := Lib.hid (HBX3.out.set (.int .i64 t0))
     have HS4 := Lib.hid (spans_set HS3.out (v := .int .i64 t0) HCf.out)
     have e6 := (World.cell?_setCell_other W3 ⟨bf, 0, none⟩ ⟨bt, 0, none⟩ (.int .i64 t0) (fun e => by injection e with e; exact hne e.symm)).trans e3
     have hfb : wr.heap.size ≠ bf := by have := HBX.out.lt; omega
     have f2 := (World.cell?_setCell_other W3 ⟨bf, 0, none⟩ ⟨wr.heap.size, 1, none⟩ (.int .i64 t0) (fun e => by injection e with e; exact hfb e.symm)).trans f1
     clear hR hy hk3 d3 d4 HX s1 s2 qf hj3 e3
     gi_wp2
     go_roundw
     case rel => exact ⟨k + 1, o', t0, pre ++ [(f, t0, o)], by omega, rfl, by go_num, ⟨by omega, by omega⟩, e6, HBX4, HS4, by unfold Hid; rw [List.append_assoc]; exact HD.out, by simpa [World.setCell] using hs3, hj4⟩
     case measure => simp [intOf]; omega
    ·rw [if_neg hf] at HD
     have qf : decide (f < t0) = false := decide_eq_false hf
     have hsz : W.heap.size ≤ wr.heap.size + 1 := by omega
     gi_wp2
     go_roundw
     case rel => exact ⟨k + 1, o', f, pre, by omega, rfl, by go_num, ⟨by omega, by omega⟩, d3, HBXa, HSa, HD, by simpa using hsz, hja⟩
     case measure => simp [intOf]; omega
   ·have hmin : min a t0 = a := by omega
    have qm : decide (t0 < a) = false := decide_eq_false hm
    rw [hmin] at HD
    clear hmin
    by_cases hf : f < a
    ·rw [if_pos hf] at HD
     have hlen : pre.length < L.length := by rw [← HD.out]; simp
     have hmem : (f, a, o) ∈ L := by rw [← HD.out]; simp
     have hY' := HY.out pre (f, a, o) _ hja hmem hlen
     obtain ⟨fn, tmps, assign, body, hy, hR⟩ := hY'
     simp only [stE] at hy
     have qf : decide (f < a) = true := decide_eq_true hf
     have HX := Lib.hid (((Boxed2.new wr 86 (.int .i64 a) (.int .i64 o'))))
     have hsz : W.heap.size ≤ wr.heap.size + 1 := by omega
     clear hlen hmem hja
     gi_wp2
     refine ⟨(fun h => by cases h), ?_⟩
     refine hR.mono ?_
     rintro r W3 ⟨rfl, hj3, hk3⟩
     have e3 := hk3.cell hG1 d3
     have HBX3 := Lib.hid (hk3.boxed hG2 HBXa.out)
     have e4 := HBX3.out.frozen
     have e5 := HBX3.out.cell
     have HS3 := Lib.hid (spans_keep HSa.out hk3 HGC.out)
     have f1 := hk3.cell (p := ⟨wr.heap.size, 1, none⟩) (HGN.out _ hWs) HX.out.2
     have hs3 : W.heap.size ≤ W3.heap.size := Nat.le_trans hsz (Nat.le_trans (by simp) hk3.1)
     have hj4 := hJ _ _ _ hj3 (StepZ.set W3 (.int .i64 a))
     have HBX4 := Lib.hid (HBX3.out.set (.int .i64 a))
     have HS4 := Lib.hid (spans_set HS3.out (v := .int .i64 a) HCf.out)
     have e6 := (World.cell?_setCell_other W3 ⟨bf, 0, none⟩ ⟨bt, 0, none⟩ (.int .i64 a) (fun e => by injection e with e; exact hne e.symm)).trans e3
     have hfb : wr.heap.size ≠ bf := by have := HBX.out.lt; omega
     have f2 := (World.cell?_setCell_other W3 ⟨bf, 0, none⟩ ⟨wr.heap.size, 1, none⟩ (.int .i64 a) (fun e => by injection e with e; exact hfb e.symm)).trans f1
     clear hR hy hk3 d3 d4 HX s1 s2 qf hj3 e3
     gi_wp2
     go_roundw
     case rel => exact ⟨k + 1, o', a, pre ++ [(f, a, o)], by omega, rfl, by go_num, ⟨by omega, by omega⟩, e6, HBX4, HS4, by unfold Hid; rw [List.append_assoc]; exact HD.out, by simpa [World.setCell] using hs3, hj4⟩
     case measure => simp [intOf]; omega
    ·rw [if_neg hf] at HD
     have qf : decide (f < a) = false := decide_eq_false hf
     have hsz : W.heap.size ≤ wr.heap.size + 1 := by omega
     gi_wp2
     go_roundw
     case rel => exact ⟨k + 1, o', f, pre, by omega, rfl, by go_num, ⟨by omega, by omega⟩, d3, HBXa, HSa, HD, by simpa using hsz, hja⟩
     case measure => simp [intOf]; omega
  ·obtain rfl : n = k := by omega
   have HF : Hid (pre ++ (if f < t0 then [(f, t0, o)] else []) = L) := by
    unfold Hid
    rw [← HP.out, List.drop_of_length_le (by rw [HL.out]; exact Nat.le_refl _)]
    rfl
   by_cases hm : f < t0
   ·rw [if_pos hm] at HF
    have hlen : pre.length < L.length := by rw [← HF.out]; simp
    have hmem : (f, t0, o) ∈ L := by rw [← HF.out]; simp
    have hY' := HY.out pre (f, t0, o) _ hj hmem hlen
    rw [HF.out] at hY'
    obtain ⟨fn, tmps, assign, body, hy, hR⟩ := hY'
    simp only [stE] at hy
    clear hlen hmem hj HP
    gi_wp2
    refine ⟨(fun h => by cases h), ?_⟩
    refine hR.mono ?_
    rintro r W3 ⟨rfl, hj3, hk3⟩
    clear hR hy
    gi_wp2
    refine bodyPost_end (results_none rfl _ _ _) rfl ?_
    exact ⟨⟨_, rfl⟩, L, rfl, hj3⟩
   ·rw [if_neg hm, List.append_nil] at HF
    rw [HF.out] at hj
    have hm' : decide (f < t0) = false := decide_eq_false hm
    gi_wp2
    refine bodyPost_end (results_none rfl _ _ _) rfl ?_
    first
     | exact ⟨⟨_, rfl⟩, L, rfl, hj⟩
     | exact ⟨⟨_, rfl⟩, hj⟩
end Go.Proofs.YtnnbibmmofnkdaaGreat
