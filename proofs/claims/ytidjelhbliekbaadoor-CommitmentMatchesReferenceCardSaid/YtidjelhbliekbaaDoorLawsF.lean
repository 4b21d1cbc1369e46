/-
  The law that the functions agree with the reference.
-/
import Derived.Test.YtidjelhbliekbaaDoorLawsD
import Derived.Deep.RegionHeld3
import Derived.Laws.Rows
namespace Go.Proofs.YtidjelhbliekbaaDoor
open Go.RowKit Go.Shelf Go.Proofs Wage26

/-- Nine numbers lie in block B; the table of the generators lies where it lay; nothing else has changed. -/
structure Nine (W : World) (xs : List Int) (wr : World) (B : Nat) : Prop where
  cells : ∀ k, k < 9 → wr.cell? ⟨B, k, none⟩ = some (.int .i64 (xs[k]?.getD 0))
  gen : Gen wr
  grown : Grew W wr
theorem Nine.grew {W wr w' : World} {xs : List Int} {B : Nat} (h : Nine W xs wr B) (g : Grew wr w') : Nine W xs w' B :=
  ⟨fun k hk => g.cell (h.cells k hk), h.gen.grew g, h.grown.trans g⟩
theorem Nine.start {W W1 : World} {a b c d e f g h i : Int} (k : Grew W (W1.alloc (.cells #[.int .i64 a, .int .i64 b, .int .i64 c, .int .i64 d, .int .i64 e, .int .i64 f, .int .i64 g, .int .i64 h, .int .i64 i] 23)))
    (hg : Gen (W1.alloc (.cells #[.int .i64 a, .int .i64 b, .int .i64 c, .int .i64 d, .int .i64 e, .int .i64 f, .int .i64 g, .int .i64 h, .int .i64 i] 23))) :
    Nine W [a, b, c, d, e, f, g, h, i] (W1.alloc (.cells #[.int .i64 a, .int .i64 b, .int .i64 c, .int .i64 d, .int .i64 e, .int .i64 f, .int .i64 g, .int .i64 h, .int .i64 i] 23)) W1.heap.size := by
  refine ⟨fun j hj => ?_, hg, k⟩
  match j, hj with
  | 0, _ => simp
  | 1, _ => simp
  | 2, _ => simp
  | 3, _ => simp
  | 4, _ => simp
  | 5, _ => simp
  | 6, _ => simp
  | 7, _ => simp
  | 8, _ => simp
/-- Three numbers lie in block B. -/
structure Three (wr : World) (B : Nat) (x0 x1 x2 : Int) : Prop where
  c0 : wr.cell? ⟨B, 0, none⟩ = some (.int .i64 x0)
  c1 : wr.cell? ⟨B, 1, none⟩ = some (.int .i64 x1)
  c2 : wr.cell? ⟨B, 2, none⟩ = some (.int .i64 x2)
theorem Three.grew {wr w' : World} {B : Nat} {x0 x1 x2 : Int} (h : Three wr B x0 x1 x2) (g : Grew wr w') : Three w' B x0 x1 x2 := ⟨g.cell h.c0, g.cell h.c1, g.cell h.c2⟩
theorem Three.new (wr : World) (x0 x1 x2 : Int) : Three (wr.alloc (.cells #[.int .i64 x0, .int .i64 x1, .int .i64 x2] 23)) wr.heap.size x0 x1 x2 := ⟨by simp, by simp, by simp⟩
theorem power_three (b e : Int) (w : World) (he : e ≤ 9223372036854775807) (B : Nat) (x0 x1 x2 : Int) (h0 : w.cell? ⟨B, 0, none⟩ = some (.int .i64 x0)) (h1 : w.cell? ⟨B, 1, none⟩ = some (.int .i64 x1)) (h2 : w.cell? ⟨B, 2, none⟩ = some (.int .i64 x2)) :
    Calls Tryd.prog 16 #[.int .i64 b, .int .i64 e] w fun r w' => r = .returned (.int .i64 (powI b e)) ∧ w'.cell? ⟨B, 0, none⟩ = some (.int .i64 x0) ∧ w'.cell? ⟨B, 1, none⟩ = some (.int .i64 x1) ∧ w'.cell? ⟨B, 2, none⟩ = some (.int .i64 x2) ∧ Grew w w' :=
  (power_any b e w he).mono fun _ _ ⟨h, k⟩ => ⟨h, k.cell h0, k.cell h1, k.cell h2, k⟩
theorem open_three (c v r : Int) (w : World) (B : Nat) (x0 x1 x2 : Int) (h0 : w.cell? ⟨B, 0, none⟩ = some (.int .i64 x0)) (h1 : w.cell? ⟨B, 1, none⟩ = some (.int .i64 x1)) (h2 : w.cell? ⟨B, 2, none⟩ = some (.int .i64 x2))
    (g0 : w.cell? ⟨0, 0, none⟩ = some (.int .i64 4)) (g1 : w.cell? ⟨0, 1, none⟩ = some (.int .i64 9)) :
    Calls Tryd.prog 17 #[.int .i64 c, .int .i64 v, .int .i64 r] w fun e w' => e = .returned (.bool (opI c v r)) ∧ w'.cell? ⟨B, 0, none⟩ = some (.int .i64 x0) ∧ w'.cell? ⟨B, 1, none⟩ = some (.int .i64 x1) ∧ w'.cell? ⟨B, 2, none⟩ = some (.int .i64 x2) ∧
      w'.cell? ⟨0, 0, none⟩ = some (.int .i64 4) ∧ w'.cell? ⟨0, 1, none⟩ = some (.int .i64 9) ∧ Grew w w' :=
  (open_any c v r w ⟨g0, g1⟩).mono fun _ _ ⟨h, k⟩ => ⟨h, k.cell h0, k.cell h1, k.cell h2, k.cell g0, k.cell g1, k⟩
theorem rows_ex {a b c a' b' c' s t : Int} (k : Nat) (hk : k < 3) (ha : in64 a) (hb : in64 b) (hc : in64 c) (a0 : 0 ≤ a') (a1 : a' < 2147483579) (b0 : 0 ≤ b') (b1 : b' < 1073741789) (c0 : 0 ≤ c') (c1 : c' < 1073741789)
    (s0 : 0 ≤ s) (s1 : s < 2147483579) (t0 : 0 ≤ t) (t1 : t < 2147483579) :
    ∃ x0 x1 x2 : Int, some (Value.int .i64 ([a, b, c, a', b', c', s, t, c][k * 3]?.getD 0)) = some (.int .i64 x0) ∧ some (Value.int .i64 ([a, b, c, a', b', c', s, t, c][k * 3 + 1]?.getD 0)) = some (.int .i64 x1) ∧
      some (Value.int .i64 ([a, b, c, a', b', c', s, t, c][k * 3 + 2]?.getD 0)) = some (.int .i64 x2) ∧ in64 x0 ∧ in64 x1 ∧ in64 x2 := by
  unfold in64 at *
  match k, hk with
  | 0, _ => exact ⟨_, _, _, rfl, rfl, rfl, ha, hb, hc⟩
  | 1, _ => exact ⟨_, _, _, rfl, rfl, rfl, ⟨by simp; omega, by simp; omega⟩, ⟨by simp; omega, by simp; omega⟩, ⟨by simp; omega, by simp; omega⟩⟩
  | 2, _ => exact ⟨_, _, _, rfl, rfl, rfl, ⟨by simp; omega, by simp; omega⟩, ⟨by simp; omega, by simp; omega⟩, hc⟩

set_option maxRecDepth 100000 in
set_option maxHeartbeats 4000000 in
theorem matches_true (a b c : Int) (W : World) (hg : Gen W) (ha : in64 a) (hb : in64 b) (hc : in64 c) :
    Calls Tryd.prog 3 #[.int .i64 a, .int .i64 b, .int .i64 c] W fun e w' => e = .returned (.bool true) ∧ Grew W w' := by
  obtain ⟨a', hpa, a0, a1⟩ := pick_ex a (n := 2147483579) (by decide)
  obtain ⟨b', hpb, b0, b1⟩ := qpick_ex b
  obtain ⟨c', hpc, c0, c1⟩ := qpick_ex c
  obtain ⟨s, hs, s0, s1⟩ := powI_ex a' 2
  obtain ⟨t, ht, t0, t1⟩ := powI_ex 4 b'
  have HA := Lib.hid hpa
  have HB := Lib.hid hpb
  have HC := Lib.hid hpc
  have HS := Lib.hid hs
  have HT := Lib.hid ht
  clear hpa hpb hpc hs ht
  go_enter Tryd.func3, Tryd.ntmps3
  go_wp2_with fail
  refine (head_true W hg).mono ?_
  rintro e W1 ⟨rfl, k1⟩
  have g1 := hg.grew k1
  go_wp2_with fail
  refine (pick_val a 2147483579 a' ha.1 ha.2 (by decide) (by decide) HA.out).mono ?_
  rintro e _ ⟨rfl, rfl⟩
  go_wp2_with fail
  refine (qpick_val hb HB).mono ?_
  rintro e _ ⟨rfl, rfl⟩
  go_wp2_with fail
  refine (qpick_val hc HC).mono ?_
  rintro e _ ⟨rfl, rfl⟩
  go_wp2_with fail
  refine (pick_val a 2147483579 a' ha.1 ha.2 (by decide) (by decide) HA.out).mono ?_
  rintro e _ ⟨rfl, rfl⟩
  go_wp2_with fail
  refine (rpower_any a' 2 _ (by decide)).mono ?_
  rw [HS.out]
  rintro e _ ⟨rfl, rfl⟩
  go_wp2_with fail
  refine (qpick_val hb HB).mono ?_
  rintro e _ ⟨rfl, rfl⟩
  go_wp2_with fail
  refine (rpower_any 4 b' _ (by omega)).mono ?_
  rw [HT.out]
  rintro e _ ⟨rfl, rfl⟩
  go_wp2_with fail
  have g2 : Gen (W1.alloc (.cells #[.int .i64 a, .int .i64 b, .int .i64 c, .int .i64 a', .int .i64 b', .int .i64 c', .int .i64 s, .int .i64 t, .int .i64 c] 23)) := g1.grew ((Grew.refl W1).alloc _)
  have kl : Grew W (W1.alloc (.cells #[.int .i64 a, .int .i64 b, .int .i64 c, .int .i64 a', .int .i64 b', .int .i64 c', .int .i64 s, .int .i64 t, .int .i64 c] 23)) := k1.trans ((Grew.refl W1).alloc _)
  go_loopw [7, 40] (fun up i wr => ∃ k : Nat, k ≤ 3 ∧ up = .bool true ∧ i = .int .i64 k ∧ Nine W [a, b, c, a', b', c', s, t, c] wr W1.heap.size) (fun _ i _ => 3 - (intOf i).toNat)
  case atStart => exact ⟨0, by decide, rfl, rfl, Nine.start kl g2⟩
  case round =>
    obtain ⟨k, hk, rfl, rfl, h9⟩ := hrel
    clear kl g2 g1 k1 hg
    by_cases hlt : k < 3
    · obtain ⟨x0, x1, x2, e0, e1, e2, bx0, bx1, bx2⟩ := rows_ex k hlt ha hb hc a0 a1 b0 b1 c0 c1 s0 s1 t0 t1
      have c0' := (h9.cells (k * 3) (by omega)).trans e0
      have c1' := (h9.cells (k * 3 + 1) (by omega)).trans e1
      have c2' := (h9.cells (k * 3 + 2) (by omega)).trans e2
      obtain ⟨ci, hci⟩ : ∃ ci, Hid (cmI x1 x2 = ci) := ⟨_, rfl⟩
      obtain ⟨ce, hce⟩ : ∃ ce, Hid (cmE x1 x2 = ce) := ⟨_, rfl⟩
      obtain ⟨ai, hai⟩ : ∃ ai, Hid (adI x0 x1 = ai) := ⟨_, rfl⟩
      obtain ⟨ae, hae⟩ : ∃ ae, Hid (adE x0 x1 = ae) := ⟨_, rfl⟩
      have ho : Hid ((opI ci x1 x2 == (ce == 0)) = true) := by
        unfold Hid opI; rw [hci.out, hce.out]; simp
      go_wp2_with fail
      have gA : Grew wr (wr.alloc (.cells #[.int .i64 x0, .int .i64 x1, .int .i64 x2] 23)) := (Grew.refl _).alloc _
      have hA := h9.grew gA
      have tA := Three.new wr x0 x1 x2
      refine (commit_val x1 x2 ci ce hA.gen hci.out hce.out).mono ?_
      rintro e w1 ⟨rfl, j1⟩
      have h1 := hA.grew j1
      have t1' := tA.grew j1
      clear hA tA gA c0' c1' c2' h9 e0 e1 e2 HA HB HC HS HT a0 a1 b0 b1 c0 c1 s0 s1 t0 t1 ha hb hc
      have z0 := t1'.c0
      have z1 := t1'.c1
      have z2 := t1'.c2
      go_wp2_with fail
      refine (rcommit_any x1 x2 _).mono ?_
      rw [hci.out, hce.out]
      rintro e _ ⟨rfl, rfl⟩
      go_wp2_with fail
      refine (add_val x0 x1 ai ae hai.out hae.out).mono ?_
      rintro e w2 ⟨rfl, j2⟩
      have h2 := h1.grew j2
      have t2' := t1'.grew j2
      clear h1 t1' z0 z1 z2
      have z0 := t2'.c0
      have z1 := t2'.c1
      have z2 := t2'.c2
      go_wp2_with fail
      refine (radd_any x0 x1 _).mono ?_
      rw [hai.out, hae.out]
      rintro e _ ⟨rfl, rfl⟩
      go_wp2_with fail
      obtain ⟨B, hB⟩ : ∃ B, B = wr.heap.size := ⟨_, rfl⟩
      rw [← hB] at z0 z1 z2 t2' ⊢
      clear hB
      obtain ⟨b10, b11⟩ := bx1
      have ge := h2.gen
      obtain ⟨ga0, ga1⟩ := ge
      have hN := Lib.hid h2
      clear h2 t2'
      go_region_held3 (fun w' => w'.cell? ⟨B, 0, none⟩ = some (.int .i64 x0) ∧ w'.cell? ⟨B, 1, none⟩ = some (.int .i64 x1) ∧ w'.cell? ⟨B, 2, none⟩ = some (.int .i64 x2)) (go_keep)
        (first | (go_at_call 16; refine (power_three _ _ _ b11 B x0 x1 x2 ?_ ?_ ?_).mono ?_; assumption; assumption; assumption; rintro e w' ⟨rfl, y0, y1, y2, yg⟩)
               | (go_at_call 11; refine (rpower_any _ _ _ b11).mono ?_; rintro e w' ⟨rfl, rfl⟩))
      have hN2 := Lib.hid (hN.out.grew ((Grew.refl w2).drew.trans yg))
      have ga0' := hN2.out.gen.c0
      have ga1' := hN2.out.gen.c1
      clear hN yg ga0 ga1 z0 z1 z2 j2
      have ho' : (opI ci x1 x2 == (ce == 0)) = true := ho.out
      go_wp2_with fail
      go_region_held3 (fun w' => w'.cell? ⟨B, 0, none⟩ = some (.int .i64 x0) ∧ w'.cell? ⟨B, 1, none⟩ = some (.int .i64 x1) ∧ w'.cell? ⟨B, 2, none⟩ = some (.int .i64 x2)) (go_keep)
        (first | (go_at_call 17; refine (open_three _ _ _ _ B x0 x1 x2 ?_ ?_ ?_ ?_ ?_).mono ?_; assumption; assumption; assumption; assumption; assumption; rintro e w'' ⟨rfl, y0', y1', y2', q0, q1, yg'⟩)
               | (go_at_call 18; refine (ropen_any _ _ _ _).mono ?_; rintro e w' ⟨rfl, rfl⟩))
      obtain ⟨wq, hq1, hq2⟩ : ∃ wq, Grew w'.drew wq ∧ Grew wq w'' := ⟨_, by assumption, yg'⟩
      have hN3 := hN2.out.grew (((Grew.refl w').drew.trans hq1).trans hq2)
      clear hq1 hq2 hN2 yg'
      go_wp2_with fail
      go_roundw
      case rel => exact ⟨k + 1, by omega, rfl, by go_num, hN3⟩
      case measure => simp [intOf]; omega
    · go_wp2_with fail
      go_ret
      exact ⟨rfl, h9.grown⟩
end Go.Proofs.YtidjelhbliekbaaDoor
