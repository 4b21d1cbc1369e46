/-
 The fixed plan.
-/
import Derived.Test.YtnnbibmmofnkdaaGreatTopA
namespace Go.Proofs.YtnnbibmmofnkdaaGreat
open Go.RowKit Go.Proofs WageMem WageReg WageRec WageSpan WageTop
end Go.Proofs.YtnnbibmmofnkdaaGreat
namespace WageTop
def SmallL (m : Nat) (log : List Stp) : Prop := ∀ s ∈ log, s.cl.length ≤ m
theorem litsOf_len : ∀ (k : Nat) (r : List Int), (litsOf k r).length = r.length
 | _, [] => rfl
 | k, x :: r => by rw [litsOf, List.length_cons, List.length_cons, litsOf_len]
theorem SmallL.app {m : Nat} {x : Stp} {s s' : Rs} {j : Int} (h : appendS x s = (s', some j)) (hs : SmallL m s.log) (hx : x.cl.length ≤ m) : SmallL m s'.log := fun y hy => by
 rw [(appendS_some h).1] at hy
 rcases List.mem_append.1 hy with h1 | h1
 ·exact hs y h1
 ·rw [List.mem_singleton] at h1; rw [h1]; exact hx
theorem extR_small {m : Nat} {f : Nat → Rs → Rs × Option Int} (hm : ∀ w s s' j, SmallL m s.log → f w s = (s', some j) → SmallL m s'.log) : ∀ (ws : List Nat) (acc : List Int) (s s' : Rs) (fr : List Int), SmallL m s.log → extR f ws acc s = (s', some fr) → SmallL m s'.log
 | [], acc, s, s', fr, hs, h => by
  injection h with h1 _
  subst h1
  exact hs
 | w :: ws, acc, s, s', fr, hs, h => by
  unfold extR at h
  split at h
  ·rename_i t j ht
   exact extR_small hm ws _ t s' fr (hm w s t j hs ht) h
  ·injection h with _ h; cases h
theorem refute_small {E : Env} {bound : Int} {m : Nat} : ∀ (k : Nat) (pre : List Int) (c : Int) (s s' : Rs) (j : Int), pre.length + k ≤ m → SmallL m s.log → refuteF E bound k pre c s = (s', some j) → SmallL m s'.log := by
 intro k
 induction k with
 | zero =>
  intro pre c s s' j hk hs h
  unfold refuteF at h
  split at h
  ·injection h with _ h; cases h
  split at h
  ·exact SmallL.app h hs (by show (litsOf 0 pre).length ≤ m; rw [litsOf_len]; omega)
  split at h
  ·exact SmallL.app h hs (by show (litsOf 0 pre).length ≤ m; rw [litsOf_len]; omega)
  ·injection h with _ h; cases h
 | succ k ih =>
  intro pre c s s' j hk hs h
  unfold refuteF at h
  split at h
  ·injection h with _ h; cases h
  split at h
  ·exact SmallL.app h hs (by show (litsOf 0 pre).length ≤ m; rw [litsOf_len]; omega)
  split at h
  ·exact SmallL.app h hs (by show (litsOf 0 pre).length ≤ m; rw [litsOf_len]; omega)
  split at h
  ·rename_i t fr ht
   exact SmallL.app h (extR_small (fun w s s' j h1 h2 => ih (pre ++ [(w : Int)]) _ s s' j (by rw [List.length_append, List.length_singleton]; omega) h1 h2) _ _ ⟨s.fuel - 1, s.log⟩ t fr hs ht) (by show (litsOf 0 pre).length ≤ m; rw [litsOf_len]; omega)
  ·injection h with _ h; cases h
theorem solve_small {E : Env} {fuel c e : Int} {l : List Int} {log : List Stp} {m : Nat} (hd : E.nD ≤ m) (hw : E.nW ≤ m) (h : solve E fuel = (l, c, log, e)) : SmallL m log := by
 unfold solve at h
 split at h
 ·simp at h; obtain ⟨_, _, rfl, _⟩ := h; exact fun s hs => by cases hs
 ·split at h
  ·simp at h; obtain ⟨_, _, rfl, _⟩ := h; exact fun s hs => by cases hs
  split at h
  ·simp at h; obtain ⟨_, _, rfl, _⟩ := h; exact fun s hs => by cases hs
  split at h
  ·simp at h; obtain ⟨_, _, rfl, _⟩ := h; exact fun s hs => by cases hs
  ·rename_i r j hr
   simp at h; obtain ⟨_, _, rfl, _⟩ := h
   refine refute_small E.nD [] 0 _ r j (by simpa using hd) (fun s hs => ?_) hr
   unfold someLog at hs
   obtain ⟨d, _, rfl⟩ := List.mem_map.1 hs
   show (someCl (d : Int) 0 E.nW).length ≤ m
   rw [someCl_len]; exact hw
end WageTop
namespace Go.Proofs.YtnnbibmmofnkdaaGreat
open Go.RowKit Go.Proofs WageMem WageReg WageRec WageSpan WageTop
/-- The fixed plan. -/
def p8 (b1 b2 : Nat) : Pl := ⟨⟨#[]⟩, 0, none, 0, 0, [], some ⟨b1, 0, none⟩, 2, 2, [⟨1440, 1500, 0⟩, ⟨1470, 1530, 0⟩], some ⟨b2, 0, none⟩, 3, 3, [⟨⟨#[]⟩, 0, false, 100, none, 0, 0, []⟩, ⟨⟨#[]⟩, 0, false, 50, none, 0, 0, []⟩, ⟨⟨#[]⟩, 0, false, 50, none, 0, 0, []⟩], ⟨0, 20000, 0, 0, 0⟩⟩
theorem ok8 (b1 b2 : Nat) : planB (p8 b1 b2) = true := by kernel_rfl
theorem sol8a (b1 b2 : Nat) : (solF (p8 b1 b2) 1000).2.2.2 = 0 := by kernel_rfl
theorem sol8b (b1 b2 : Nat) : (solF (p8 b1 b2) 1000).2.1 = 6000 := by kernel_rfl
theorem sol8c (b1 b2 : Nat) : (solF (p8 b1 b2) 1000).1 = [1, 2] := by kernel_rfl
set_option maxRecDepth 100000 in
set_option maxHeartbeats 4000000 in
theorem plan8 (w : World) : Calls Tryz.prog 8 #[] w fun e w' => e = .returned (.bool true) ∧ Grew w w' := by
 obtain ⟨w1, hw1⟩ : ∃ y, y = w.alloc (.cells #[.int .i64 1440, .int .i64 1500, .int .i64 0, .int .i64 1470, .int .i64 1530, .int .i64 0] 47) := ⟨_, rfl⟩
 obtain ⟨b1, hb1⟩ : ∃ z, z = w.heap.size := ⟨_, rfl⟩
 have hs1 : w1.heap.size = b1 + 1 := by rw [hw1, hb1]; simp
 obtain ⟨w2, hw2⟩ : ∃ y, y = w1.alloc (.cells #[.string ⟨#[]⟩, .int .i64 0, .bool false, .int .i64 100, .slice none 0 0, .string ⟨#[]⟩, .int .i64 0, .bool false, .int .i64 50, .slice none 0 0, .string ⟨#[]⟩, .int .i64 0, .bool false, .int .i64 50, .slice none 0 0] 56) := ⟨_, rfl⟩
 obtain ⟨b2, hb2⟩ : ∃ z, z = b1 + 1 := ⟨_, rfl⟩
 have hs2 : w2.heap.size = b2 + 1 := by rw [hw2, hb2, ← hs1]; simp
 obtain ⟨w3, hw3⟩ : ∃ y, y = w2.alloc (.cells #[.string ⟨#[]⟩, .int .i64 0, .slice none 0 0, .slice (some ⟨b1, 0, none⟩) 2 2, .slice (some ⟨b2, 0, none⟩) 3 3, .int .i64 0, .int .i64 20000, .int .i64 0, .int .i64 0, .int .i64 0] 32) := ⟨_, rfl⟩
 obtain ⟨tb, htb⟩ : ∃ z, z = b2 + 1 := ⟨_, rfl⟩
 have g1 : Grew w w1 := by rw [hw1]; exact (Grew.refl w).alloc _
 have g2 : Grew w1 w2 := by rw [hw2]; exact (Grew.refl w1).alloc _
 have g3 : Grew w2 w3 := by rw [hw3]; exact (Grew.refl w2).alloc _
 have X1 : Hid (Blk w3 tb 32 (planC (p8 b1 b2))) := by unfold Hid; rw [hw3, htb, ← hs2]; exact Blk.new w2 32 (planC (p8 b1 b2))
 have R1 : Recs encD 3 w1 (some ⟨b1, 0, none⟩) 2 2 [⟨1440, 1500, 0⟩, ⟨1470, 1530, 0⟩] := by rw [hw1, hb1]; exact Recs.built encD_ok #[.int .i64 1440, .int .i64 1500, .int .i64 0, .int .i64 1470, .int .i64 1530, .int .i64 0] rfl rfl (by decide)
 have R2 : Recs encW 5 w2 (some ⟨b2, 0, none⟩) 3 3 (p8 b1 b2).ws := by rw [hw2, hb2, ← hs1]; exact Recs.built encW_ok #[.string ⟨#[]⟩, .int .i64 0, .bool false, .int .i64 100, .slice none 0 0, .string ⟨#[]⟩, .int .i64 0, .bool false, .int .i64 50, .slice none 0 0, .string ⟨#[]⟩, .int .i64 0, .bool false, .int .i64 50, .slice none 0 0] rfl rfl (by decide)
 have hp : PlanAt w3 (p8 b1 b2) := by
  have i0 : in64 0 := by unfold in64; omega
  refine ⟨Spans.none_, ⟨R1.grew (g2.trans g3), fun x hx => ?_⟩, ⟨R2.grew g3, fun x hx => ?_⟩, i0, ⟨i0, by unfold in64; show (-9223372036854775808 : Int) ≤ 20000 ∧ (20000 : Int) ≤ 9223372036854775807; omega, i0, i0, i0⟩⟩
  ·simp only [p8, List.mem_cons, List.not_mem_nil, or_false] at hx
   rcases hx with rfl | rfl <;> (unfold in64; simp only; omega)
  ·simp only [p8, List.mem_cons, List.not_mem_nil, or_false] at hx
   rcases hx with rfl | rfl | rfl <;> exact ⟨Spans.none_, by unfold in64; simp only; omega, by unfold in64; simp only; omega⟩
 have HP := Lib.hid hp
 have HG := Lib.hid (g1.trans (g2.trans g3))
 clear R1 R2 hp g1 g2 g3 hs1 hs2
 go_enter Tryz.func8, Tryz.ntmps8
 go_upto_region 2 with (fail)
 rw [← hw1, ← hw2, ← hb1, ← hb2, ← hw3, ← htb]
 clear hw1 hw2 hw3 hb1 hb2 htb
 have v0 : w3.cell? ⟨tb, 0, none⟩ = some (.string ⟨#[]⟩) := (X1.out.grew (Grew.refl _)).cell rfl
 have v1 : w3.cell? ⟨tb, 1, none⟩ = some (.int .i64 0) := (X1.out.grew (Grew.refl _)).cell rfl
 have v2 : w3.cell? ⟨tb, 2, none⟩ = some (.slice none 0 0) := (X1.out.grew (Grew.refl _)).cell rfl
 have v3 : w3.cell? ⟨tb, 3, none⟩ = some (.slice (some ⟨b1, 0, none⟩) 2 2) := (X1.out.grew (Grew.refl _)).cell rfl
 have v4 : w3.cell? ⟨tb, 4, none⟩ = some (.slice (some ⟨b2, 0, none⟩) 3 3) := (X1.out.grew (Grew.refl _)).cell rfl
 have v5 : w3.cell? ⟨tb, 5, none⟩ = some (.int .i64 0) := (X1.out.grew (Grew.refl _)).cell rfl
 have v6 : w3.cell? ⟨tb, 6, none⟩ = some (.int .i64 20000) := (X1.out.grew (Grew.refl _)).cell rfl
 have v7 : w3.cell? ⟨tb, 7, none⟩ = some (.int .i64 0) := (X1.out.grew (Grew.refl _)).cell rfl
 have v8 : w3.cell? ⟨tb, 8, none⟩ = some (.int .i64 0) := (X1.out.grew (Grew.refl _)).cell rfl
 have v9 : w3.cell? ⟨tb, 9, none⟩ = some (.int .i64 0) := (X1.out.grew (Grew.refl _)).cell rfl
 go_wp2_with fail
 refine (solve13 (p8 b1 b2) 1000 w3 HP.out).mono ?_
 rintro r w4 ⟨BA, bc, GA, gc, rfl, hown, hlog, g4⟩
 clear v0 v1 v2 v3 v4 v5 v6 v7 v8 v9
 have hs : solF (p8 b1 b2) 1000 = ([1, 2], 6000, (solF (p8 b1 b2) 1000).2.2.1, 0) := by
  rw [← sol8a b1 b2, ← sol8b b1 b2, ← sol8c b1 b2]
 rw [sol8a, sol8b, sol8c]
 rw [sol8c] at hown
 obtain ⟨log, hlg⟩ : ∃ l, (solF (p8 b1 b2) 1000).2.2.1 = l := ⟨_, rfl⟩
 rw [hlg] at hs hlog ⊢
 have hso : solve (envP (p8 b1 b2)) 1000 = ([1, 2], 6000, log, 0) := by rw [← hs]; unfold solF; rw [if_pos ⟨ok8 b1 b2, by decide, by decide⟩]
 have hbest := solve_best (env_ok (HP.out) (ok8 b1 b2)) (by show 0 < 2; decide) hso
 have hsm := solve_small (m := 24) (show (2 : Nat) ≤ 24 by decide) (show (3 : Nat) ≤ 24 by decide) hso
 have HI : Hid (Ints w4 BA 2 bc [1, 2]) := Ints.own rfl hown
 have HLG : Hid (LgRd w4 GA log.length gc log) := LgRd.of_log hlog rfl
 have HSM : Hid (∀ s ∈ log, s.cl.length ≤ 1000) := fun s hs => Nat.le_trans (hsm s hs) (by decide)
 have HC1 : Hid (chkB (p8 b1 b2) 6000 log = true) := by unfold Hid chkB; rw [ok8, hbest.check, decide_eq_true hbest.len]; rfl
 have HC2 : Hid (chkB (p8 b1 b2) 6001 log = false) := by unfold Hid chkB; rw [show checkB (envP (p8 b1 b2)) 6001 log = false from hbest.tight, Bool.and_false, Bool.and_false]
 have HG4 := Lib.hid g4
 clear hown hlog hs hso hbest hsm hlg g4
 obtain ⟨ln, hln⟩ : ∃ n, log.length = n := ⟨_, rfl⟩
 rw [hln] at HLG ⊢
 clear hln
 obtain ⟨w5, hw5⟩ : ∃ y, y = w4.alloc (.cells #[.int .i64 1, .int .i64 2] 3) := ⟨_, rfl⟩
 have g5 : Grew w4 w5 := by rw [hw5]; exact (Grew.refl w4).alloc _
 have HI2 : Hid (Ints w5 (some ⟨w4.heap.size, 0, none⟩) 2 2 [1, 2]) := by
  unfold Hid; rw [hw5]
  exact ⟨rfl, builtS (w := w4) (t := 3) 1 2 #[.int .i64 1, .int .i64 2] _ rfl rfl (by decide)⟩
 go_wp2_with fail
 rw [← hw5]
 refine (same15 (t := true) (HI.out.grew g5) HI2.out rfl).mono ?_
 rintro r w6 ⟨rfl, g6⟩
 have HG6 := Lib.hid (HG4.out.trans (g5.trans g6))
 have HLG6 := Lib.hid (HLG.out.grew (g5.trans g6))
 clear hw5 g5 g6 HI2 HI
 have v0 : w6.cell? ⟨tb, 0, none⟩ = some (.string ⟨#[]⟩) := (X1.out.grew HG6.out).cell rfl
 have v1 : w6.cell? ⟨tb, 1, none⟩ = some (.int .i64 0) := (X1.out.grew HG6.out).cell rfl
 have v2 : w6.cell? ⟨tb, 2, none⟩ = some (.slice none 0 0) := (X1.out.grew HG6.out).cell rfl
 have v3 : w6.cell? ⟨tb, 3, none⟩ = some (.slice (some ⟨b1, 0, none⟩) 2 2) := (X1.out.grew HG6.out).cell rfl
 have v4 : w6.cell? ⟨tb, 4, none⟩ = some (.slice (some ⟨b2, 0, none⟩) 3 3) := (X1.out.grew HG6.out).cell rfl
 have v5 : w6.cell? ⟨tb, 5, none⟩ = some (.int .i64 0) := (X1.out.grew HG6.out).cell rfl
 have v6 : w6.cell? ⟨tb, 6, none⟩ = some (.int .i64 20000) := (X1.out.grew HG6.out).cell rfl
 have v7 : w6.cell? ⟨tb, 7, none⟩ = some (.int .i64 0) := (X1.out.grew HG6.out).cell rfl
 have v8 : w6.cell? ⟨tb, 8, none⟩ = some (.int .i64 0) := (X1.out.grew HG6.out).cell rfl
 have v9 : w6.cell? ⟨tb, 9, none⟩ = some (.int .i64 0) := (X1.out.grew HG6.out).cell rfl
 go_wp2_with fail
 refine (check17 (HP.out.grew HG6.out) HLG6.out HSM.out HC1.out).mono ?_
 rintro r w7 ⟨rfl, g7⟩
 have HG7 := Lib.hid (HG6.out.trans g7)
 have HLG7 := Lib.hid (HLG6.out.grew g7)
 clear v0 v1 v2 v3 v4 v5 v6 v7 v8 v9 g7
 have v0 : w7.cell? ⟨tb, 0, none⟩ = some (.string ⟨#[]⟩) := (X1.out.grew HG7.out).cell rfl
 have v1 : w7.cell? ⟨tb, 1, none⟩ = some (.int .i64 0) := (X1.out.grew HG7.out).cell rfl
 have v2 : w7.cell? ⟨tb, 2, none⟩ = some (.slice none 0 0) := (X1.out.grew HG7.out).cell rfl
 have v3 : w7.cell? ⟨tb, 3, none⟩ = some (.slice (some ⟨b1, 0, none⟩) 2 2) := (X1.out.grew HG7.out).cell rfl
 have v4 : w7.cell? ⟨tb, 4, none⟩ = some (.slice (some ⟨b2, 0, none⟩) 3 3) := (X1.out.grew HG7.out).cell rfl
 have v5 : w7.cell? ⟨tb, 5, none⟩ = some (.int .i64 0) := (X1.out.grew HG7.out).cell rfl
 have v6 : w7.cell? ⟨tb, 6, none⟩ = some (.int .i64 20000) := (X1.out.grew HG7.out).cell rfl
 have v7 : w7.cell? ⟨tb, 7, none⟩ = some (.int .i64 0) := (X1.out.grew HG7.out).cell rfl
 have v8 : w7.cell? ⟨tb, 8, none⟩ = some (.int .i64 0) := (X1.out.grew HG7.out).cell rfl
 have v9 : w7.cell? ⟨tb, 9, none⟩ = some (.int .i64 0) := (X1.out.grew HG7.out).cell rfl
 go_wp2_with fail
 refine (check17 (HP.out.grew HG7.out) HLG7.out HSM.out HC2.out).mono ?_
 rintro r w8 ⟨rfl, g8⟩
 have HG8 := Lib.hid (HG.out.trans (HG7.out.trans g8))
 clear v0 v1 v2 v3 v4 v5 v6 v7 v8 v9 g8
 go_wp2
 go_ret
 exact ⟨rfl, HG8.out⟩
end Go.Proofs.YtnnbibmmofnkdaaGreat
