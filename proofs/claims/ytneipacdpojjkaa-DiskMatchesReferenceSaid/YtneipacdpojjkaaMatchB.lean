/-
  The law DiskMatchesReference, walked: what is not examined; all cases joined.
-/
import Derived.Test.YtneipacdpojjkaaMatch
namespace Go.Proofs.Ytneipacdpojjkaa
open Go.RowKit Go.Proofs WageMem WageDisk

set_option maxRecDepth 100000 in
set_option maxHeartbeats 16000000 in
theorem match_skip (size : Int) (A : Option Addr) (n c : Nat) (A' : Option Addr) (n' c' : Nat) (d : Ds) (off : Int) (A3 : Option Addr) (n3 c3 : Nat) (count : Int) (Ak : Option Addr) (nk ck : Nat) (w : World)
    (h : Disk w (.agg #[.slice A n c, .slice A' n' c']) d) (hs : smallB d 600 = false ∨ 600 < n3 ∨ 80 < nk) :
    Calls Try.prog 3 #[.int .i64 size, .agg #[.slice A n c, .slice A' n' c'], .int .i64 off, .slice A3 n3 c3, .int .i64 count, .slice Ak nk ck] w fun e w' => e = .returned (.bool true) ∧ Grew w w' := by
  have g0 : Grew w (w.alloc (.cells #[.slice A n c, .slice A' n' c'] 25)) := (Grew.refl w).alloc _
  have HH := Lib.hid h
  clear h
  obtain ⟨dn, hdn⟩ : ∃ dn, newD size = dn := ⟨_, rfl⟩
  obtain ⟨en, hen⟩ : ∃ en, newE size = en := ⟨_, rfl⟩
  have H1 := Lib.hid hdn
  have H2 := Lib.hid hen
  clear hdn hen
  have q1 : (en != en) = false := by simp
  cases hsm : smallB d 600 with
  | false =>
    have HS := Lib.hid hsm
    clear hsm hs
    go_enter Try.func3, Try.ntmps3
    go_wp2_with fail
    refine (head_true _).mono ?_
    rintro e w1 ⟨rfl, g1⟩
    have d0 : w1.cell? ⟨w.heap.size, 0, none⟩ = some (.slice A n c) := g1.cell (by simp)
    have d1 : w1.cell? ⟨w.heap.size, 1, none⟩ = some (.slice A' n' c') := g1.cell (by simp)
    have gg := g0.trans g1
    clear g0 g1
    go_wp2_with fail
    refine (new_val H1.out H2.out).mono ?_
    rintro e w2 ⟨B2, m2, f2, C2, p2, q2, rfl, fr2, g2⟩
    replace d0 := g2.cell d0
    replace d1 := g2.cell d1
    have sz20 := World.block_lt_of_cell? _ _ d0
    go_wp2_with fail
    obtain ⟨x2, hx2⟩ : ∃ x, x = w2.alloc (.cells #[.slice B2 m2 f2, .slice C2 p2 q2] 25) := ⟨_, rfl⟩
    have ga2 : Grew w2 x2 := by rw [hx2]; exact (Grew.refl _).alloc _
    have gs2 : Grew w1 x2 := g2.trans ga2
    have b20 : x2.cell? ⟨w2.heap.size, 0, none⟩ = some (.slice B2 m2 f2) := by rw [hx2]; simp
    have b21 : x2.cell? ⟨w2.heap.size, 1, none⟩ = some (.slice C2 p2 q2) := by rw [hx2]; simp
    have k2 : Hid (Disk x2 (.agg #[.slice B2 m2 f2, .slice C2 p2 q2]) dn) := fr2.now.grew ga2
    rw [← hx2]
    replace d0 := ga2.cell d0
    replace d1 := ga2.cell d1
    clear hx2 fr2 g2 ga2
    replace gg := gg.trans gs2
    clear sz20
    refine (rnew_val H1.out H2.out).mono ?_
    rintro e w3 ⟨B3, m3, f3, C3, p3, q3, rfl, fr3, g3⟩
    replace d0 := g3.cell d0
    replace d1 := g3.cell d1
    replace b20 := g3.cell b20
    replace b21 := g3.cell b21
    have sz30 := World.block_lt_of_cell? _ _ d0
    have sz31 := World.block_lt_of_cell? _ _ b20
    go_wp2_with fail
    obtain ⟨x3, hx3⟩ : ∃ x, x = w3.alloc (.cells #[.slice B3 m3 f3, .slice C3 p3 q3] 25) := ⟨_, rfl⟩
    have ga3 : Grew w3 x3 := by rw [hx3]; exact (Grew.refl _).alloc _
    have gs3 : Grew x2 x3 := g3.trans ga3
    have b30 : x3.cell? ⟨w3.heap.size, 0, none⟩ = some (.slice B3 m3 f3) := by rw [hx3]; simp
    have b31 : x3.cell? ⟨w3.heap.size, 1, none⟩ = some (.slice C3 p3 q3) := by rw [hx3]; simp
    have k3 : Hid (Disk x3 (.agg #[.slice B3 m3 f3, .slice C3 p3 q3]) dn) := fr3.now.grew ga3
    rw [← hx3]
    replace d0 := ga3.cell d0
    replace d1 := ga3.cell d1
    replace b20 := ga3.cell b20
    replace b21 := ga3.cell b21
    clear hx3 fr3 g3 ga3
    replace gg := gg.trans gs3
    clear sz30
    clear sz31
    refine (same_eq (k2.out.grew gs3) k3.out).mono ?_
    rintro e w4 ⟨rfl, g4⟩
    replace d0 := g4.cell d0
    replace d1 := g4.cell d1
    replace gg := gg.trans g4
    clear b20 b21 b30 b31 k2 k3 gs2 gs3 g4
    go_wp2_with fail
    refine (small_any _ d 600 _ (HH.out.grew gg)).mono ?_
    rw [HS.out]
    rintro e w5 ⟨rfl, g5⟩
    clear d0 d1
    go_wp2_with fail
    go_ret
    exact ⟨rfl, gg.trans g5⟩
  | true =>
    have HS := Lib.hid hsm
    by_cases k1 : 600 < n3
    · have t1 : decide (600 < (n3 : Int)) = true := decide_eq_true (by omega)
      clear hsm hs
      go_enter Try.func3, Try.ntmps3
      go_wp2_with fail
      refine (head_true _).mono ?_
      rintro e w1 ⟨rfl, g1⟩
      have d0 : w1.cell? ⟨w.heap.size, 0, none⟩ = some (.slice A n c) := g1.cell (by simp)
      have d1 : w1.cell? ⟨w.heap.size, 1, none⟩ = some (.slice A' n' c') := g1.cell (by simp)
      have gg := g0.trans g1
      clear g0 g1
      go_wp2_with fail
      refine (new_val H1.out H2.out).mono ?_
      rintro e w2 ⟨B2, m2, f2, C2, p2, q2, rfl, fr2, g2⟩
      replace d0 := g2.cell d0
      replace d1 := g2.cell d1
      have sz20 := World.block_lt_of_cell? _ _ d0
      go_wp2_with fail
      obtain ⟨x2, hx2⟩ : ∃ x, x = w2.alloc (.cells #[.slice B2 m2 f2, .slice C2 p2 q2] 25) := ⟨_, rfl⟩
      have ga2 : Grew w2 x2 := by rw [hx2]; exact (Grew.refl _).alloc _
      have gs2 : Grew w1 x2 := g2.trans ga2
      have b20 : x2.cell? ⟨w2.heap.size, 0, none⟩ = some (.slice B2 m2 f2) := by rw [hx2]; simp
      have b21 : x2.cell? ⟨w2.heap.size, 1, none⟩ = some (.slice C2 p2 q2) := by rw [hx2]; simp
      have k2 : Hid (Disk x2 (.agg #[.slice B2 m2 f2, .slice C2 p2 q2]) dn) := fr2.now.grew ga2
      rw [← hx2]
      replace d0 := ga2.cell d0
      replace d1 := ga2.cell d1
      clear hx2 fr2 g2 ga2
      replace gg := gg.trans gs2
      clear sz20
      refine (rnew_val H1.out H2.out).mono ?_
      rintro e w3 ⟨B3, m3, f3, C3, p3, q3, rfl, fr3, g3⟩
      replace d0 := g3.cell d0
      replace d1 := g3.cell d1
      replace b20 := g3.cell b20
      replace b21 := g3.cell b21
      have sz30 := World.block_lt_of_cell? _ _ d0
      have sz31 := World.block_lt_of_cell? _ _ b20
      go_wp2_with fail
      obtain ⟨x3, hx3⟩ : ∃ x, x = w3.alloc (.cells #[.slice B3 m3 f3, .slice C3 p3 q3] 25) := ⟨_, rfl⟩
      have ga3 : Grew w3 x3 := by rw [hx3]; exact (Grew.refl _).alloc _
      have gs3 : Grew x2 x3 := g3.trans ga3
      have b30 : x3.cell? ⟨w3.heap.size, 0, none⟩ = some (.slice B3 m3 f3) := by rw [hx3]; simp
      have b31 : x3.cell? ⟨w3.heap.size, 1, none⟩ = some (.slice C3 p3 q3) := by rw [hx3]; simp
      have k3 : Hid (Disk x3 (.agg #[.slice B3 m3 f3, .slice C3 p3 q3]) dn) := fr3.now.grew ga3
      rw [← hx3]
      replace d0 := ga3.cell d0
      replace d1 := ga3.cell d1
      replace b20 := ga3.cell b20
      replace b21 := ga3.cell b21
      clear hx3 fr3 g3 ga3
      replace gg := gg.trans gs3
      clear sz30
      clear sz31
      refine (same_eq (k2.out.grew gs3) k3.out).mono ?_
      rintro e w4 ⟨rfl, g4⟩
      replace d0 := g4.cell d0
      replace d1 := g4.cell d1
      replace gg := gg.trans g4
      clear b20 b21 b30 b31 k2 k3 gs2 gs3 g4
      go_wp2_with fail
      refine (small_any _ d 600 _ (HH.out.grew gg)).mono ?_
      rw [HS.out]
      rintro e w5 ⟨rfl, g5⟩
      clear d0 d1
      go_wp2_with fail
      go_ret
      exact ⟨rfl, gg.trans g5⟩
    · have t1 : decide (600 < (n3 : Int)) = false := decide_eq_false (by omega)
      have t2 : decide (80 < (nk : Int)) = true := by
        rcases hs with hs | hs | hs
        · rw [hsm] at hs; cases hs
        · exact absurd hs k1
        · exact decide_eq_true (by omega)
      clear hsm hs
      go_enter Try.func3, Try.ntmps3
      go_wp2_with fail
      refine (head_true _).mono ?_
      rintro e w1 ⟨rfl, g1⟩
      have d0 : w1.cell? ⟨w.heap.size, 0, none⟩ = some (.slice A n c) := g1.cell (by simp)
      have d1 : w1.cell? ⟨w.heap.size, 1, none⟩ = some (.slice A' n' c') := g1.cell (by simp)
      have gg := g0.trans g1
      clear g0 g1
      go_wp2_with fail
      refine (new_val H1.out H2.out).mono ?_
      rintro e w2 ⟨B2, m2, f2, C2, p2, q2, rfl, fr2, g2⟩
      replace d0 := g2.cell d0
      replace d1 := g2.cell d1
      have sz20 := World.block_lt_of_cell? _ _ d0
      go_wp2_with fail
      obtain ⟨x2, hx2⟩ : ∃ x, x = w2.alloc (.cells #[.slice B2 m2 f2, .slice C2 p2 q2] 25) := ⟨_, rfl⟩
      have ga2 : Grew w2 x2 := by rw [hx2]; exact (Grew.refl _).alloc _
      have gs2 : Grew w1 x2 := g2.trans ga2
      have b20 : x2.cell? ⟨w2.heap.size, 0, none⟩ = some (.slice B2 m2 f2) := by rw [hx2]; simp
      have b21 : x2.cell? ⟨w2.heap.size, 1, none⟩ = some (.slice C2 p2 q2) := by rw [hx2]; simp
      have k2 : Hid (Disk x2 (.agg #[.slice B2 m2 f2, .slice C2 p2 q2]) dn) := fr2.now.grew ga2
      rw [← hx2]
      replace d0 := ga2.cell d0
      replace d1 := ga2.cell d1
      clear hx2 fr2 g2 ga2
      replace gg := gg.trans gs2
      clear sz20
      refine (rnew_val H1.out H2.out).mono ?_
      rintro e w3 ⟨B3, m3, f3, C3, p3, q3, rfl, fr3, g3⟩
      replace d0 := g3.cell d0
      replace d1 := g3.cell d1
      replace b20 := g3.cell b20
      replace b21 := g3.cell b21
      have sz30 := World.block_lt_of_cell? _ _ d0
      have sz31 := World.block_lt_of_cell? _ _ b20
      go_wp2_with fail
      obtain ⟨x3, hx3⟩ : ∃ x, x = w3.alloc (.cells #[.slice B3 m3 f3, .slice C3 p3 q3] 25) := ⟨_, rfl⟩
      have ga3 : Grew w3 x3 := by rw [hx3]; exact (Grew.refl _).alloc _
      have gs3 : Grew x2 x3 := g3.trans ga3
      have b30 : x3.cell? ⟨w3.heap.size, 0, none⟩ = some (.slice B3 m3 f3) := by rw [hx3]; simp
      have b31 : x3.cell? ⟨w3.heap.size, 1, none⟩ = some (.slice C3 p3 q3) := by rw [hx3]; simp
      have k3 : Hid (Disk x3 (.agg #[.slice B3 m3 f3, .slice C3 p3 q3]) dn) := fr3.now.grew ga3
      rw [← hx3]
      replace d0 := ga3.cell d0
      replace d1 := ga3.cell d1
      replace b20 := ga3.cell b20
      replace b21 := ga3.cell b21
      clear hx3 fr3 g3 ga3
      replace gg := gg.trans gs3
      clear sz30
      clear sz31
      refine (same_eq (k2.out.grew gs3) k3.out).mono ?_
      rintro e w4 ⟨rfl, g4⟩
      replace d0 := g4.cell d0
      replace d1 := g4.cell d1
      replace gg := gg.trans g4
      clear b20 b21 b30 b31 k2 k3 gs2 gs3 g4
      go_wp2_with fail
      refine (small_any _ d 600 _ (HH.out.grew gg)).mono ?_
      rw [HS.out]
      rintro e w5 ⟨rfl, g5⟩
      clear d0 d1
      go_wp2_with fail
      go_ret
      exact ⟨rfl, gg.trans g5⟩

theorem match_true (size : Int) (v : Value) (d : Ds) (off : Int) (A3 : Option Addr) (n3 c3 : Nat) (data : List UInt8) (count : Int) (Ak : Option Addr) (nk ck : Nat) (kept : List Int) (w : World)
    (h : Disk w v d) (hD : Bytes w A3 n3 c3 data) (hK : Ints w Ak nk ck kept) (o0 : -9223372036854775808 ≤ off) (o1 : off ≤ 9223372036854775807) (k0 : -9223372036854775808 ≤ count) (k1 : count ≤ 9223372036854775807) :
    Calls Try.prog 3 #[.int .i64 size, v, .int .i64 off, .slice A3 n3 c3, .int .i64 count, .slice Ak nk ck] w fun e w' => e = .returned (.bool true) ∧ Grew w w' := by
  obtain ⟨A, n, c, A', n', c', rfl, _, _⟩ := h.form
  by_cases hs : smallB d 600 = false ∨ 600 < n3 ∨ 80 < nk
  · exact match_skip size A n c A' n' c' d off A3 n3 c3 count Ak nk ck w h hs
  · have hsm : smallB d 600 = true := by cases e : smallB d 600 <;> simp_all
    exact match_front size A n c A' n' c' d off A3 n3 c3 data count Ak nk ck kept w h hD hK o0 o1 k0 k1 hsm (by omega) (by omega)
end Go.Proofs.Ytneipacdpojjkaa
