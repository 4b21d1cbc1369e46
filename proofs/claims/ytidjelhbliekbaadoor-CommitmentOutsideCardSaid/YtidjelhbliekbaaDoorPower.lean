import Derived.Test.YtidjelhbliekbaaDoorBits
import Derived.Lib.Hide
namespace Go.Proofs.YtidjelhbliekbaaDoor
open Go.RowKit Go.Shelf Go.Proofs Wage26
attribute [local go_sem] Oper.semAt_some

theorem pw_self {b : Int} (hb0 : 0 ≤ b) (hb : b < 2147483579) : pw b.toNat 1 = b.toNat := by
  unfold pw; rw [Nat.pow_one]; exact Nat.mod_eq_of_lt (by unfold P; omega)
theorem toNat_le {e : Int} (h : e ≤ 9223372036854775807) : e.toNat ≤ 9223372036854775807 := by omega
theorem mul_bd {r q : Int} (r0 : 0 ≤ r) (r1 : r < 2147483579) (q0 : 0 ≤ q) (q1 : q < 2147483579) : 0 ≤ r * q ∧ r * q ≤ 4611685761751678084 := by
  refine ⟨Int.mul_nonneg r0 q0, ?_⟩
  have := Int.mul_le_mul (a := r) (b := q) (c := 2147483578) (d := 2147483578) (by omega) (by omega) q0 (by omega)
  omega

section
variable {w w3 W : World} {b q r : Int} {pre : List Bool}
theorem sq (hq : q = ((pw b.toNat (2 ^ pre.length) : Nat) : Int)) (x : Bool) : q * q % 2147483579 = ((pw b.toNat (2 ^ (pre ++ [x]).length) : Nat) : Int) := by
  have := pw_add b.toNat (2 ^ pre.length) (2 ^ pre.length)
  rw [hq, List.length_append, List.length_singleton, Nat.pow_succ, Nat.mul_two, ← this]
  simp
theorem mu (hq : q = ((pw b.toNat (2 ^ pre.length) : Nat) : Int)) (hr : r = ((pw b.toNat (val pre) : Nat) : Int)) : r * q % 2147483579 = ((pw b.toNat (val (pre ++ [true])) : Nat) : Int) := by
  have := pw_add b.toNat (val pre) (2 ^ pre.length)
  rw [hq, hr, val_snoc, Bool.toNat_true, Nat.one_mul, ← this]
  simp
theorem va : val (pre ++ [false]) = val pre := by rw [val_snoc]; simp
theorem stepped_false {a : Act} (h1 : Boxed W w.heap.size 3 (.int .i64 q)) (h2 : Boxed W (w.heap.size + 1) 3 (.int .i64 r)) (h3 : Below w.heap.size w W)
    (hq : q = ((pw b.toNat (2 ^ pre.length) : Nat) : Int)) (hr : r = ((pw b.toNat (val pre) : Nat) : Int)) :
    goesOn w3.heap.size (KeepAt (w.heap.size + 1 + 1))
      (fun pre W => Boxed W w.heap.size 3 (.int .i64 (pw b.toNat (2 ^ pre.length))) ∧ Boxed W (w.heap.size + 1) 3 (.int .i64 (pw b.toNat (val pre))) ∧ Below w.heap.size w W)
      (pre ++ [false]) W .normal a (W.setCell ⟨w.heap.size, 0, none⟩ (.int .i64 (q * q % 2147483579))) := by
  refine ⟨(KeepsOthers.setCell _ _ _).from _, ⟨World.cell?_setCell_other _ _ _ _ (by simp), World.frozen?_setCell _ _ _ _⟩, ?_, ?_, h3.setCell (by simp) _⟩
  · rw [← sq hq]; exact h1.set _
  · rw [va, ← hr]; exact h2.other (by omega) _
theorem stepped_true {a : Act} (h1 : Boxed W w.heap.size 3 (.int .i64 q)) (h2 : Boxed W (w.heap.size + 1) 3 (.int .i64 r)) (h3 : Below w.heap.size w W)
    (hq : q = ((pw b.toNat (2 ^ pre.length) : Nat) : Int)) (hr : r = ((pw b.toNat (val pre) : Nat) : Int)) :
    goesOn w3.heap.size (KeepAt (w.heap.size + 1 + 1))
      (fun pre W => Boxed W w.heap.size 3 (.int .i64 (pw b.toNat (2 ^ pre.length))) ∧ Boxed W (w.heap.size + 1) 3 (.int .i64 (pw b.toNat (val pre))) ∧ Below w.heap.size w W)
      (pre ++ [true]) W .normal a ((W.setCell ⟨w.heap.size + 1, 0, none⟩ (.int .i64 (r * q % 2147483579))).setCell ⟨w.heap.size, 0, none⟩ (.int .i64 (q * q % 2147483579))) := by
  refine ⟨((KeepsOthers.setCell _ _ _).trans (KeepsOthers.setCell _ _ _)).from _, ⟨(World.cell?_setCell_other _ _ _ _ (by simp)).trans (World.cell?_setCell_other _ _ _ _ (by simp)), by rw [World.frozen?_setCell, World.frozen?_setCell]⟩, ?_, ?_, (h3.setCell (by simp) _).setCell (by simp) _⟩
  · rw [← sq hq]; exact (h1.other (by omega) _).set _
  · rw [← mu hq hr]; exact (h2.set _).other (by omega) _
end

set_option maxRecDepth 100000 in
set_option maxHeartbeats 1000000 in
theorem power_ok (b e : Int) (w : World) (hb0 : 0 ≤ b) (hb : b < 2147483579) (he0 : 0 ≤ e) (he : e ≤ 9223372036854775807) :
    Calls Tryd.prog 16 #[.int .i64 b, .int .i64 e] w fun r w' => r = .returned (.int .i64 (pw b.toNat e.toNat)) ∧ Below w.heap.size w w' := by
  have d1 : decide (b < 0) = false := decide_eq_false (by omega)
  have d2 : decide (2147483579 ≤ b) = false := decide_eq_false (by omega)
  have d3 : decide (e < 0) = false := decide_eq_false (by omega)
  refine (callsIn_wide (n := 3)).1 ?_
  refine callsIn_of_wp_marks Tryd.func16 rfl trivial ?_ rfl
  simp only [Tryd.ntmps16, List.size_toArray, List.length_cons, List.length_nil, Nat.reduceAdd, Nat.reduceSub, Array.replicate_succ, Array.replicate_zero, List.push_toArray, List.append_toArray, List.nil_append, List.cons_append]
  gi_wp2_with (refine ⟨trivial, ?_⟩; gi_at_call 21; refine (callsIn_wide.2 (bits_any _ _)).mono ?_; rintro r w' ⟨rfl, rfl⟩)
  obtain ⟨w3, hw3⟩ : ∃ w3, w3 = ((w.alloc (.cells #[.int .i64 b] 3)).alloc (.cells #[.int .i64 1] 3)).alloc (.cells #[.int .i64 e] 3) := ⟨_, rfl⟩
  have hs3 : w3.heap.size = w.heap.size + 3 := by rw [hw3]; simp
  have hB3 : Below w.heap.size w w3 := by rw [hw3]; exact (((Below.refl _ w).alloc (Nat.le_refl _) _).alloc (by simp) _).alloc (by simp; omega) _
  have b0 : Boxed w3 w.heap.size 3 (.int .i64 b) := by rw [hw3]; exact ((Boxed.new w 3 _).alloc _).alloc _
  have b1 : Boxed w3 (w.heap.size + 1) 3 (.int .i64 1) := by
    rw [hw3]; have := (Boxed.new (w.alloc (.cells #[.int .i64 b] 3)) 3 (.int .i64 1)).alloc (.cells #[.int .i64 e] 3); rwa [World.size_alloc] at this
  have b2 : Boxed w3 (w.heap.size + 2) 3 (.int .i64 e) := by
    rw [hw3]; have := Boxed.new ((w.alloc (.cells #[.int .i64 b] 3)).alloc (.cells #[.int .i64 1] 3)) 3 (.int .i64 e); rwa [World.size_alloc, World.size_alloc] at this
  rw [← hw3]
  clear hw3
  have hb0' := pw_self hb0 hb
  have HB0 := Lib.hid hb0'
  clear hb0'
  refine wpIn_rangeFunc_goesOn rfl (by decide) (gf := 22) (lb := #[.pointer (some ⟨w.heap.size + 1 + 1, 0, none⟩)]) rfl trivial (enters_of Tryd.func22 (by kernel_rfl) rfl) (encs := fun x : Bool => #[.bool x]) (fun _ => rfl)
    (fun o1 o2 => bits1_runs 2 (w.heap.size + 1 + 1) e.toNat _ (toNat_le he) (by rw [Int.toNat_of_nonneg he0]; exact ((b2.alloc o1).alloc o2).cell) ((b2.alloc o1).alloc o2).frozen)
    (fun A B C h k => ⟨k.1.trans h.1, k.2.trans h.2⟩) ?kb ?st
    (fun pre W => Boxed W w.heap.size 3 (.int .i64 (pw b.toNat (2 ^ pre.length))) ∧ Boxed W (w.heap.size + 1) 3 (.int .i64 (pw b.toNat (val pre))) ∧ Below w.heap.size w W)
    ?is ?ib ?start
    (fun x => { tmps := #[.int .i64 b, .int .i64 e, .pointer (some ⟨w.heap.size, 0, none⟩), undef, .int .i64 0, .pointer (some ⟨w.heap.size + 1, 0, none⟩), .bool x, .int .i64 b, .bool false, .bool false, .int .i64 b, .bool false, .bool false, .bool false, .int .i64 e, .bool false, .bool false,
      .int .i64 e, .func (.func 22) #[] #[.pointer (some ⟨w.heap.size + 1 + 1, 0, none⟩)], .bool x, undef, undef, undef, undef, undef, undef, undef, undef, undef, undef], defers := [] }) ?assign ?body ?done
  case kb =>
    intro W l o' hl
    exact ⟨World.cell?_of_block (World.putObj_heap_other (by simp; omega)), World.frozen?_of_block (World.putObj_heap_other (by simp; omega))⟩
  case st =>
    rintro A B ⟨v, rfl⟩ k o hk ho
    exact (Below.heap_setCell _ _ _ _ (by simp; omega)).trans ho
  case is =>
    rintro s A B ⟨h1, h2, h3⟩ ⟨v, rfl⟩
    exact ⟨h1.other (by omega) _, h2.other (by omega) _, h3.setCell (by simp; omega) _⟩
  case ib =>
    rintro s W k o' hk hlt ⟨h1, h2, h3⟩
    exact ⟨h1.kept (grownBy_putObj' W k o') (by simp; omega), h2.kept (grownBy_putObj' W k o') (by simp; omega), h3.grown (grownBy_putObj' W k o') h3.size (by simp; omega)⟩
  case start =>
    intro o1 o2
    have e1 : pw b.toNat (2 ^ ([] : List Bool).length) = b.toNat := HB0.out
    rw [e1, Int.toNat_of_nonneg hb0]
    exact ⟨(b0.alloc _).alloc _, (b1.alloc _).alloc _, (hB3.alloc (by omega) _).alloc (by simp; omega) _⟩
  case assign =>
    intro l x W K hK
    gi_wp2
    exact hK
  case body =>
    rintro l pre x W ⟨h1, h2, h3⟩ _
    obtain ⟨q, hq⟩ : ∃ q : Int, q = ((pw b.toNat (2 ^ pre.length) : Nat) : Int) := ⟨_, rfl⟩
    obtain ⟨r, hr⟩ : ∃ r : Int, r = ((pw b.toNat (val pre) : Nat) : Int) := ⟨_, rfl⟩
    have q0 : 0 ≤ q := by omega
    have q1 : q < 2147483579 := by have := pw_lt b.toNat (2 ^ pre.length); unfold P at this; omega
    have r0 : 0 ≤ r := by omega
    have r1 : r < 2147483579 := by have := pw_lt b.toNat (val pre); unfold P at this; omega
    rw [← hq] at h1
    rw [← hr] at h2
    have HQ := Lib.hid hq
    have HR := Lib.hid hr
    clear hq hr d1 d2 d3 b0 b1 b2 hB3
    have c1 := h1.cell
    have f1 := h1.frozen
    have c2 := h2.cell
    have f2 := h2.frozen
    have m1 := mul_bd q0 q1 q0 q1
    have m2 := mul_bd r0 r1 q0 q1
    obtain ⟨m10, m11⟩ := m1
    obtain ⟨m20, m21⟩ := m2
    cases x
    · gi_wp2
      exact stepped_false h1 h2 h3 HQ.out HR.out
    · gi_wp2
      exact stepped_true h1 h2 h3 HQ.out HR.out
  case done =>
    rintro xs W rfl ⟨h1, h2, h3⟩ hK
    rw [val_bitsOf] at h2
    have c2 := h2.cell
    gi_wp2
    refine ⟨by simp, .inl ⟨_, _, rfl, run_takeDeferred hK, ?_⟩⟩
    exact ⟨_, results_tmp rfl _ _ _, rfl, h3.grown (grownBy_putObj' W _ _) h3.size (by simp; omega)⟩
end Go.Proofs.YtidjelhbliekbaaDoor
