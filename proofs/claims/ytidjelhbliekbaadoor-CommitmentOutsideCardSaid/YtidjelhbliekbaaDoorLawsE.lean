/-
  The law on numbers outside the group.
-/
import Derived.Test.YtidjelhbliekbaaDoorLawsD
import Derived.Deep.LoopGhost
namespace Go.Proofs.YtidjelhbliekbaaDoor
open Go.RowKit Go.Shelf Go.Proofs Wage26

theorem el_low {x : Int} (h : x < 1) : elI x = false := by unfold elI; rw [decide_eq_false (by omega)]; rfl
theorem el_high {x : Int} (h : 2147483579 ≤ x) : elI x = false := by unfold elI; rw [decide_eq_false (by omega)]; rfl
theorem el_neg {a : Int} (h : elI a = true) : elI (2147483579 - a) = false := by
  have b := elI_bd h
  have p := powI_of_el h
  obtain ⟨x, rfl⟩ := Int.eq_ofNat_of_zero_le (show 0 ≤ a by omega)
  rw [powI_pos (by omega) (by omega) (by decide), Int.toNat_natCast] at p
  have p' : pw x Q = 1 := by have : ((pw x Q : Nat) : Int) = 1 := p; omega
  have n := neg_group (a := x) (by omega) (by unfold P; omega) p'
  have e : (2147483579 - (x : Int)).toNat = P - x := by unfold P; omega
  unfold elI
  rw [powI_pos (by omega) (by omega) (by decide), e, show (1073741789 : Int).toNat = Q from rfl]
  rw [Bool.and_eq_false_iff]
  right
  rw [beq_eq_false_iff_ne]
  omega
theorem ad_left {w : World} {x a : Int} (h : Hid (elI x = false)) :
    Calls Tryd.prog 14 #[.int .i64 x, .int .i64 a] w fun e w' => e = .returned (.tuple #[.int .i64 0, .int .i64 1]) ∧ Grew w w' :=
  add_val x a 0 1 (by unfold adI; rw [h.out]; rfl) (by unfold adE; rw [h.out]; rfl)
theorem ad_right {w : World} {x a : Int} (h : Hid (elI x = false)) :
    Calls Tryd.prog 14 #[.int .i64 a, .int .i64 x] w fun e w' => e = .returned (.tuple #[.int .i64 0, .int .i64 1]) ∧ Grew w w' :=
  add_val a x 0 1 (by unfold adI; rw [h.out, Bool.and_false]; rfl) (by unfold adE; rw [h.out, Bool.and_false]; rfl)

/-- The five numbers. -/
def five (a : Int) : List Int := [2147483579 - a, 0, 2147483579, -a, a + 2147483579]
theorem five_out {a : Int} (h : elI a = true) (k : Nat) (hk : k < 5) : elI ((five a)[k]?.getD 0) = false := by
  have b := elI_bd h
  match k, hk with
  | 0, _ => exact el_neg h
  | 1, _ => exact el_low (show (0 : Int) < 1 by decide)
  | 2, _ => exact el_high (show (2147483579 : Int) ≤ 2147483579 by decide)
  | 3, _ => exact el_low (by show -a < 1; omega)
  | 4, _ => exact el_high (by show 2147483579 ≤ a + 2147483579; omega)

theorem cmI_bad1 {n v : Int} (h : okQ n = false) : cmI n v = 0 := by unfold cmI; rw [h]; rfl
theorem cmE_bad1 {n v : Int} (h : okQ n = false) : cmE n v = 1 := by unfold cmE; rw [h]; rfl
theorem cmI_bad2 {n v : Int} (h : okQ n = false) : cmI v n = 0 := by unfold cmI; rw [h, Bool.and_false]; rfl
theorem cmE_bad2 {n v : Int} (h : okQ n = false) : cmE v n = 1 := by unfold cmE; rw [h, Bool.and_false]; rfl
theorem opI_bad1 {c n v : Int} (h : okQ n = false) : opI c n v = false := by unfold opI; rw [cmE_bad1 h]; rfl
theorem opI_bad2 {c n v : Int} (h : okQ n = false) : opI c v n = false := by unfold opI; rw [cmE_bad2 h]; rfl

/-- The five numbers lie in block B; the table of the generators lies where it lay; nothing else has changed. -/
structure FiveAt (W : World) (a : Int) (wr : World) (B : Nat) : Prop where
  cells : ∀ k, k < 5 → wr.cell? ⟨B, k, none⟩ = some (.int .i64 ((five a)[k]?.getD 0))
  gen : Gen wr
  grown : Grew W wr
theorem FiveAt.grew {W wr w' : World} {a : Int} {B : Nat} (h : FiveAt W a wr B) (g : Grew wr w') : FiveAt W a w' B :=
  ⟨fun k hk => g.cell (h.cells k hk), h.gen.grew g, h.grown.trans g⟩
theorem FiveAt.start {W W2 : World} {a : Int} (k : Grew W W2) (g : Gen W2) :
    FiveAt W a (W2.alloc (.cells #[.int .i64 (2147483579 - a), .int .i64 0, .int .i64 2147483579, .int .i64 (-a), .int .i64 (a + 2147483579)] 3)) W2.heap.size := by
  have hg : Grew W2 (W2.alloc (.cells #[.int .i64 (2147483579 - a), .int .i64 0, .int .i64 2147483579, .int .i64 (-a), .int .i64 (a + 2147483579)] 3)) := (Grew.refl W2).alloc _
  refine ⟨fun j hj => ?_, g.grew hg, k.trans hg⟩
  match j, hj with
  | 0, _ => simp [five]
  | 1, _ => simp [five]
  | 2, _ => simp [five]
  | 3, _ => simp [five]
  | 4, _ => simp [five]

set_option maxRecDepth 100000 in
set_option maxHeartbeats 4000000 in
theorem outside_in (n v : Int) (W : World) (hg : Gen W) (hv : in64 v) (n0 : 0 ≤ n) (n1 : n < 1073741789) :
    Calls Tryd.prog 8 #[.int .i64 n, .int .i64 v] W fun e w' => e = .returned (.bool true) ∧ Grew W w' := by
  obtain ⟨v', hpv, v0, v1⟩ := qpick_ex v
  have HV := Lib.hid hpv
  clear hpv
  have qv : inQ v' := ⟨v0, v1⟩
  have q1 : inQ 1 := ⟨by decide, by decide⟩
  obtain ⟨a, ha, ea, a0, a1⟩ := cm_ex v' 1 qv q1
  have hop : Hid (opI (2147483579 - a) v' 1 = false) := by
    unfold Hid; rw [opI_ok qv q1 ha.out, beq_eq_false_iff_ne]; omega
  have d1 : decide (n < 0) = false := decide_eq_false (by omega)
  have d2 : decide (1073741789 ≤ n) = false := decide_eq_false (by omega)
  go_enter Tryd.func8, Tryd.ntmps8
  go_wp2_with fail
  refine (head_true W hg).mono ?_
  rintro e W1 ⟨rfl, k1⟩
  have g1 := hg.grew k1
  go_wp2_with fail
  refine (qpick_val hv HV).mono ?_
  rintro e _ ⟨rfl, rfl⟩
  go_wp2_with fail
  refine (commit_hid g1 qv q1 ha).mono ?_
  rintro e W2 ⟨rfl, k2⟩

  go_wp2_with fail
  have kl := (k1.trans k2)
  have gl : Gen W2 := g1.grew k2
  clear g1 k1 k2 hg
  obtain ⟨B, hB⟩ : ∃ B, B = W2.heap.size := ⟨_, rfl⟩
  go_loopw [5, 90] (fun up i wr => ∃ k : Nat, k ≤ 5 ∧ up = .bool true ∧ i = .int .i64 k ∧ FiveAt W a wr W2.heap.size) (fun _ i _ => 5 - (intOf i).toNat)
  case atStart => exact ⟨0, by decide, rfl, rfl, FiveAt.start kl gl⟩
  case round =>
    obtain ⟨k, hk, rfl, rfl, h5⟩ := hrel
    clear kl gl hB
    by_cases hlt : k < 5
    · have hc := h5.cells k hlt
      have hel : Hid (elI ((five a)[k]?.getD 0) = false) := five_out ea.out k hlt
      generalize (five a)[k]?.getD 0 = x at hc hel
      go_wp2_with fail
      refine (ad_left hel).mono ?_
      rintro e w1 ⟨rfl, j1⟩
      go_wp2_with fail
      refine (ad_right hel).mono ?_
      rintro e w2 ⟨rfl, j2⟩
      go_wp2_with fail
      go_roundw
      case rel => exact ⟨k + 1, by omega, rfl, by go_num, (h5.grew j1).grew j2⟩
      case measure => simp [intOf]; omega
    · go_wp2_with fail
      refine (open_val (2147483579 - a) v' 1 false h5.gen hop.out).mono ?_
      rintro e w1 ⟨rfl, j1⟩
      go_wp2_with fail
      go_ret
      exact ⟨rfl, h5.grown.trans j1⟩

set_option maxRecDepth 100000 in
set_option maxHeartbeats 4000000 in
theorem outside_low (n v : Int) (W : World) (hg : Gen W) (hv : in64 v) (hn : okQ n = false) (hlo : n < 0) :
    Calls Tryd.prog 8 #[.int .i64 n, .int .i64 v] W fun e w' => e = .returned (.bool true) ∧ Grew W w' := by
  obtain ⟨v', hpv, v0, v1⟩ := qpick_ex v
  have HV := Lib.hid hpv
  clear hpv
  have qv : inQ v' := ⟨v0, v1⟩
  have q1 : inQ 1 := ⟨by decide, by decide⟩
  obtain ⟨a, ha, ea, a0, a1⟩ := cm_ex v' 1 qv q1
  have hop : Hid (opI (2147483579 - a) v' 1 = false) := by
    unfold Hid; rw [opI_ok qv q1 ha.out, beq_eq_false_iff_ne]; omega
  have d1 : decide (n < 0) = true := decide_eq_true hlo
  go_enter Tryd.func8, Tryd.ntmps8
  go_wp2_with fail
  refine (head_true W hg).mono ?_
  rintro e W1 ⟨rfl, k1⟩
  have g1 := hg.grew k1
  go_wp2_with fail
  refine (qpick_val hv HV).mono ?_
  rintro e _ ⟨rfl, rfl⟩
  go_wp2_with fail
  refine (commit_hid g1 qv q1 ha).mono ?_
  rintro e W2 ⟨rfl, k2⟩
  have g2 := g1.grew k2
  go_wp2_with fail
  refine (commit_val n v' 0 1 g2 (cmI_bad1 hn) (cmE_bad1 hn)).mono ?_
  rintro e W3 ⟨rfl, k3⟩
  have g3 := g2.grew k3
  go_wp2_with fail
  refine (commit_val v' n 0 1 g3 (cmI_bad2 hn) (cmE_bad2 hn)).mono ?_
  rintro e W4 ⟨rfl, k4⟩
  have g4' := g3.grew k4
  go_wp2_with fail
  refine (open_val a n 1 false g4' (opI_bad1 hn)).mono ?_
  rintro e W5 ⟨rfl, k5⟩
  have g5 := g4'.grew k5
  go_wp2_with fail
  refine (open_val a v' n false g5 (opI_bad2 hn)).mono ?_
  rintro e W6 ⟨rfl, k6⟩
  have g6 := g5.grew k6
  go_wp2_with fail
  refine (open_val 0 n n false g6 (opI_bad1 hn)).mono ?_
  rintro e W7 ⟨rfl, k7⟩
  have g7 := g6.grew k7
  go_wp2_with fail
  have kl := (k1.trans k2).trans (k3.trans (k4.trans (k5.trans (k6.trans k7))))
  have gl : Gen W7 := g7
  clear g1 k1 k2 hg g2 k3 g3 k4 g4' k5 g5 k6 g6 k7 g7
  obtain ⟨B, hB⟩ : ∃ B, B = W7.heap.size := ⟨_, rfl⟩
  go_loopw [5, 90] (fun up i wr => ∃ k : Nat, k ≤ 5 ∧ up = .bool true ∧ i = .int .i64 k ∧ FiveAt W a wr W7.heap.size) (fun _ i _ => 5 - (intOf i).toNat)
  case atStart => exact ⟨0, by decide, rfl, rfl, FiveAt.start kl gl⟩
  case round =>
    obtain ⟨k, hk, rfl, rfl, h5⟩ := hrel
    clear kl gl hB
    by_cases hlt : k < 5
    · have hc := h5.cells k hlt
      have hel : Hid (elI ((five a)[k]?.getD 0) = false) := five_out ea.out k hlt
      generalize (five a)[k]?.getD 0 = x at hc hel
      go_wp2_with fail
      refine (ad_left hel).mono ?_
      rintro e w1 ⟨rfl, j1⟩
      go_wp2_with fail
      refine (ad_right hel).mono ?_
      rintro e w2 ⟨rfl, j2⟩
      go_wp2_with fail
      go_roundw
      case rel => exact ⟨k + 1, by omega, rfl, by go_num, (h5.grew j1).grew j2⟩
      case measure => simp [intOf]; omega
    · go_wp2_with fail
      refine (open_val (2147483579 - a) v' 1 false h5.gen hop.out).mono ?_
      rintro e w1 ⟨rfl, j1⟩
      go_wp2_with fail
      go_ret
      exact ⟨rfl, h5.grown.trans j1⟩

set_option maxRecDepth 100000 in
set_option maxHeartbeats 4000000 in
theorem outside_high (n v : Int) (W : World) (hg : Gen W) (hv : in64 v) (hn : okQ n = false) (hhi : 1073741789 ≤ n) :
    Calls Tryd.prog 8 #[.int .i64 n, .int .i64 v] W fun e w' => e = .returned (.bool true) ∧ Grew W w' := by
  obtain ⟨v', hpv, v0, v1⟩ := qpick_ex v
  have HV := Lib.hid hpv
  clear hpv
  have qv : inQ v' := ⟨v0, v1⟩
  have q1 : inQ 1 := ⟨by decide, by decide⟩
  obtain ⟨a, ha, ea, a0, a1⟩ := cm_ex v' 1 qv q1
  have hop : Hid (opI (2147483579 - a) v' 1 = false) := by
    unfold Hid; rw [opI_ok qv q1 ha.out, beq_eq_false_iff_ne]; omega
  have d1 : decide (n < 0) = false := decide_eq_false (by omega)
  have d2 : decide (1073741789 ≤ n) = true := decide_eq_true hhi
  go_enter Tryd.func8, Tryd.ntmps8
  go_wp2_with fail
  refine (head_true W hg).mono ?_
  rintro e W1 ⟨rfl, k1⟩
  have g1 := hg.grew k1
  go_wp2_with fail
  refine (qpick_val hv HV).mono ?_
  rintro e _ ⟨rfl, rfl⟩
  go_wp2_with fail
  refine (commit_hid g1 qv q1 ha).mono ?_
  rintro e W2 ⟨rfl, k2⟩
  have g2 := g1.grew k2
  go_wp2_with fail
  refine (commit_val n v' 0 1 g2 (cmI_bad1 hn) (cmE_bad1 hn)).mono ?_
  rintro e W3 ⟨rfl, k3⟩
  have g3 := g2.grew k3
  go_wp2_with fail
  refine (commit_val v' n 0 1 g3 (cmI_bad2 hn) (cmE_bad2 hn)).mono ?_
  rintro e W4 ⟨rfl, k4⟩
  have g4' := g3.grew k4
  go_wp2_with fail
  refine (open_val a n 1 false g4' (opI_bad1 hn)).mono ?_
  rintro e W5 ⟨rfl, k5⟩
  have g5 := g4'.grew k5
  go_wp2_with fail
  refine (open_val a v' n false g5 (opI_bad2 hn)).mono ?_
  rintro e W6 ⟨rfl, k6⟩
  have g6 := g5.grew k6
  go_wp2_with fail
  refine (open_val 0 n n false g6 (opI_bad1 hn)).mono ?_
  rintro e W7 ⟨rfl, k7⟩
  have g7 := g6.grew k7
  go_wp2_with fail
  have kl := (k1.trans k2).trans (k3.trans (k4.trans (k5.trans (k6.trans k7))))
  have gl : Gen W7 := g7
  clear g1 k1 k2 hg g2 k3 g3 k4 g4' k5 g5 k6 g6 k7 g7
  obtain ⟨B, hB⟩ : ∃ B, B = W7.heap.size := ⟨_, rfl⟩
  go_loopw [5, 90] (fun up i wr => ∃ k : Nat, k ≤ 5 ∧ up = .bool true ∧ i = .int .i64 k ∧ FiveAt W a wr W7.heap.size) (fun _ i _ => 5 - (intOf i).toNat)
  case atStart => exact ⟨0, by decide, rfl, rfl, FiveAt.start kl gl⟩
  case round =>
    obtain ⟨k, hk, rfl, rfl, h5⟩ := hrel
    clear kl gl hB
    by_cases hlt : k < 5
    · have hc := h5.cells k hlt
      have hel : Hid (elI ((five a)[k]?.getD 0) = false) := five_out ea.out k hlt
      generalize (five a)[k]?.getD 0 = x at hc hel
      go_wp2_with fail
      refine (ad_left hel).mono ?_
      rintro e w1 ⟨rfl, j1⟩
      go_wp2_with fail
      refine (ad_right hel).mono ?_
      rintro e w2 ⟨rfl, j2⟩
      go_wp2_with fail
      go_roundw
      case rel => exact ⟨k + 1, by omega, rfl, by go_num, (h5.grew j1).grew j2⟩
      case measure => simp [intOf]; omega
    · go_wp2_with fail
      refine (open_val (2147483579 - a) v' 1 false h5.gen hop.out).mono ?_
      rintro e w1 ⟨rfl, j1⟩
      go_wp2_with fail
      go_ret
      exact ⟨rfl, h5.grown.trans j1⟩

theorem outside_true (n v : Int) (W : World) (hg : Gen W) (hv : in64 v) :
    Calls Tryd.prog 8 #[.int .i64 n, .int .i64 v] W fun e w' => e = .returned (.bool true) ∧ Grew W w' := by
  by_cases h1 : n < 0
  · exact outside_low n v W hg hv (okQ_false (.inl h1)) h1
  · by_cases h2 : 1073741789 ≤ n
    · exact outside_high n v W hg hv (okQ_false (.inr h2)) h2
    · exact outside_in n v W hg hv (by omega) (by omega)
end Go.Proofs.YtidjelhbliekbaaDoor
