/-
  The reference function Same at two equal disks.
-/
import Derived.Test.YtneipacdpojjkaaRefB
namespace Go.Proofs.Ytneipacdpojjkaa
open Go.RowKit Go.Proofs WageMem WageDisk

theorem bytes_quiet {A B : Option Addr} {n m c e : Nat} {xs ys : List UInt8} {w : World} (ha : Bytes w A n c xs) (hb : Bytes w B m e ys) (h : xs = ys) (a : Nat) :
    Calls Try.prog 25 #[.slice A n c, .slice B m e] (w.drewN a) fun r w' => r = .returned (.bool true) ∧ ∃ q, w' = w.drewN q :=
  (bytes_eq (w := w.drewN a) (ha.grew ((Grew.refl w).drewN a)) (hb.grew ((Grew.refl w).drewN a)) h).mono fun _ _ ⟨e, q, hq⟩ => ⟨e, a + q, by rw [hq, World.drewN_drewN]⟩

set_option maxRecDepth 100000 in
set_option maxHeartbeats 4000000 in
theorem same_eq {v u : Value} {d : Ds} {w : World} (h : Disk w v d) (h' : Disk w u d) :
    Calls Try.prog 19 #[v, u] w fun e w' => e = .returned (.bool true) ∧ Grew w w' := by
  obtain ⟨A, n, c, A', n', c', rfl, hB, hW⟩ := h.form
  obtain ⟨A1, n1, c1, A1', n1', c1', rfl, hB1, hW1⟩ := h'.form
  obtain rfl : n1 = n := by have := hB.1; have := hB1.1; omega
  obtain rfl : n1' = n' := by have := hW.1; have := hW1.1; omega
  have hnm : n1' ≤ 9223372036854775807 := Nat.le_trans hW.2.1 hW.2.2.1
  have HN' := Lib.hid hW.1
  have t0 : ((n1' : Int) != (n1' : Int)) = false := by simp
  go_enter Try.func19, Try.ntmps19
  go_wp2_with fail
  obtain ⟨w0, hw0⟩ : ∃ w0, w0 = (w.alloc (.cells #[.slice A n1 c, .slice A' n1' c'] 25)).alloc (.cells #[.slice A1 n1 c1, .slice A1' n1' c1'] 25) := ⟨_, rfl⟩
  have g0 : Grew w w0 := by rw [hw0]; exact ((Grew.refl w).alloc _).alloc _
  have b1 : w0.cell? ⟨w.heap.size, 1, none⟩ = some (.slice A' n1' c') := by rw [hw0]; simp
  have b2 : w0.cell? ⟨w.heap.size + 1, 1, none⟩ = some (.slice A1' n1' c1') := by rw [hw0]; simp
  rw [← hw0]
  clear hw0
  refine (bytes_ok (hB.grew g0) (hB1.grew g0) rfl).mono ?_
  rintro e w1 ⟨rfl, g1⟩
  have b1' := g1.cell b1
  have b2' := g1.cell b2
  have gg := g0.trans g1
  clear b1 b2 g0 g1
  go_wp2_with fail
  go_loopw [5] (fun i wr => ∃ k : Nat, k ≤ n1' ∧ i = .int .i64 k ∧ Grew w1 wr) (fun i _ => n1' - (intOf i).toNat)
  case atStart => exact ⟨0, Nat.zero_le _, rfl, Grew.refl _⟩
  case round =>
    obtain ⟨k, hk, rfl, hg⟩ := hrel
    have e1 := hg.cell b1'
    have e2 := hg.cell b2'
    by_cases hlt : k < n1'
    · obtain ⟨x, hx⟩ : ∃ x, d.pe[k]? = some x := ⟨_, List.getElem?_eq_getElem (by rw [HN'.out]; exact hlt)⟩
      obtain ⟨b, o, rfl, hc⟩ := (hW.grew (gg.trans hg)).2.2.2.2 (by omega)
      obtain ⟨bb, oo, rfl, hcc⟩ := (hW1.grew (gg.trans hg)).2.2.2.2 (by omega)
      obtain ⟨f1, x0, x1, Ax, nx, cx, f2, hbx⟩ := hc k x hx
      obtain ⟨f3, _, _, Ay, ny, cy, f4, hby⟩ := hcc k x hx
      have HX := Lib.hid hbx
      have HY := Lib.hid hby
      clear hc hcc hx hbx hby b1' b2'
      generalize x.off = xo at f1 f3 x0 x1
      have i0 : (0 : Int) ≤ (k : Int) := by omega
      have i1 : (k : Int) < (n1' : Int) := by omega
      have tt : (xo != xo) = false := by simp
      go_wp2_with fail
      go_quiet ((go_at_call 25; exact bytes_quiet HX.out HY.out rfl _))
      go_wp2_with fail
      go_roundw
      case rel => exact ⟨k + 1, by omega, by go_num, hg.drewN _⟩
      case measure => simp [intOf]; omega
    · go_wp2_with fail
      go_ret
      exact ⟨rfl, gg.trans hg⟩
end Go.Proofs.Ytneipacdpojjkaa
