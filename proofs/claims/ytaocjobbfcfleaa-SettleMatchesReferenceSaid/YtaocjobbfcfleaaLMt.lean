/-
  SettleMatchesReference: the law's walk.
-/
import Derived.Test.YtaocjobbfcfleaaRAp
import Derived.Test.YtaocjobbfcfleaaREn
namespace Go.Proofs.Ytaocjobbfcfleaa
open Go.RowKit Go.Proofs WageMem WageOrd WageRec WageMap WageReg WageSet
theorem rsend_val {A B : Option Addr} {n c m e : Nat} {d d' : Desk} {p : Pay} {w : World} {z : Int} (h : DeskIs w A n c B m e d) (hp : p.acc.size ≤ maxLen) (he : sendE d p = z) (hd : sendD d p = d') : Calls Try.prog 12 #[.agg #[.slice A n c, .slice B m e], pv p] w (RetD z d' w) := by
  subst he hd; exact rsend_any A n c B m e d p w h hp
theorem rapply_val {A B : Option Addr} {n c m e : Nat} {d d' : Desk} {a : Ans} {w : World} {z : Int} (h : DeskIs w A n c B m e d) (he : applyE d a = z) (hd : applyD d a = d') : Calls Try.prog 14 #[.agg #[.slice A n c, .slice B m e], av a] w (RetD z d' w) := by
  subst he hd; exact rapply_any A n c B m e d a w h
theorem rspent_val {A B : Option Addr} {n c m e : Nat} {d : Desk} {acc : ByteArray} {w : World} {s : Int} (h : DeskIs w A n c B m e d) (hs : spentL d acc = s) : Calls Try.prog 17 #[.agg #[.slice A n c, .slice B m e], .string acc] w fun r w' => r = .returned (.int .i64 s) ∧ Grew w w' := by subst hs; exact rspent_any A B n c m e d acc w h
theorem rents_val {A B : Option Addr} {n c m e : Nat} {d : Desk} {l : List Ent} {w : World} (h : DeskIs w A n c B m e d) (he : entL d = l) : Calls Try.prog 20 #[.agg #[.slice A n c, .slice B m e]] w (RetEs l w) := by
  subst he; exact rents_any A B n c m e d w h
set_option maxRecDepth 100000 in
set_option maxHeartbeats 32000000 in
theorem mat_law (A0 : Option Addr) (n0 c0 : Nat) (B0 : Option Addr) (m0 e0 : Nat) (d : Desk) (p : Pay) (a : Ans) (acc : ByteArray) (w : World) (h : DeskIs w A0 n0 c0 B0 m0 e0 d) (hp : p.acc.size ≤ maxLen) : Calls Try.prog 3 #[.agg #[.slice A0 n0 c0, .slice B0 m0 e0], pv p, av a, .string acc] w fun e w' => e = .returned (.bool true) ∧ Grew w w' := by
  have HD := Lib.hid h
  have un := h.1.1.le
  have um := Recs.le h.2
  clear h
  show Calls Try.prog 3 #[.agg #[.slice A0 n0 c0, .slice B0 m0 e0], .agg #[.int .i64 p.id, .string p.acc, .int .i64 p.c, .int .i64 p.d], .agg #[.int .i64 a.q, .int .i64 a.id, .int .i64 a.k, .int .i64 a.c, .int .i64 a.d], .string acc] w _
  by_cases hn : n0 ≤ 402
  rotate_left
  · have q1 : decide ((n0 : Int) > 402) = true := decide_eq_true (by omega)
    have q1' : decide ((402 : Int) < (n0 : Int)) = true := decide_eq_true (by omega)
    skip
    obtain ⟨b1, hb0⟩ : ∃ b, b = w.heap.size := ⟨_, rfl⟩
    obtain ⟨w1, hw0⟩ : ∃ x, x = w.alloc (.cells #[.slice A0 n0 c0, .slice B0 m0 e0] 25) := ⟨_, rfl⟩
    have g0 : Grew w w1 := by rw [hw0]; exact (Grew.refl w).alloc _
    have sz0 : w1.heap.size = w.heap.size + 1 := by rw [hw0]; simp
    obtain ⟨b2, hb1⟩ : ∃ b, b = w.heap.size + 1 := ⟨_, rfl⟩
    obtain ⟨w2, hw1⟩ : ∃ x, x = w1.alloc (.cells #[.int .i64 p.id, .string p.acc, .int .i64 p.c, .int .i64 p.d] 27) := ⟨_, rfl⟩
    have g1 : Grew w1 w2 := by rw [hw1]; exact (Grew.refl w1).alloc _
    have sz1 : w2.heap.size = w.heap.size + 1 + 1 := by rw [hw1]; simp [sz0]
    obtain ⟨b3, hb2⟩ : ∃ b, b = w.heap.size + 1 + 1 := ⟨_, rfl⟩
    obtain ⟨w3, hw2⟩ : ∃ x, x = w2.alloc (.cells #[.int .i64 a.q, .int .i64 a.id, .int .i64 a.k, .int .i64 a.c, .int .i64 a.d] 29) := ⟨_, rfl⟩
    have g2 : Grew w2 w3 := by rw [hw2]; exact (Grew.refl w2).alloc _
    have sz2 : w3.heap.size = w.heap.size + 1 + 1 + 1 := by rw [hw2]; simp [sz1]
    have HRd : Hid (w3.rangeAt b1 0 [.slice A0 n0 c0, .slice B0 m0 e0]) := by
      unfold Hid
      rw [hb0]
      exact range_grew (by rw [hw0]; exact range_new w _ 25) (g1.trans g2)
    have HRp : Hid (w3.rangeAt b2 0 [.int .i64 p.id, .string p.acc, .int .i64 p.c, .int .i64 p.d]) := by
      unfold Hid
      rw [hb1, ← sz0]
      exact range_grew (by rw [hw1]; exact range_new w1 _ 27) g2
    have HRa : Hid (w3.rangeAt b3 0 [.int .i64 a.q, .int .i64 a.id, .int .i64 a.k, .int .i64 a.c, .int .i64 a.d]) := by
      unfold Hid
      rw [hb2, ← sz1]
      exact range_grew (by rw [hw2]; exact range_new w2 _ 29) (Grew.refl _)
    have gg : Grew w w3 := ((g0.trans g1).trans g2)
    clear sz0 g0 sz1 g1 sz2 g2
    go_enter Try.func3, Try.ntmps3
    go_upto_region 1 with (fail)
    rw [← hw0]
    rw [← hw1]
    rw [← hw2]
    rw [← hb2, ← hb1, ← hb0]
    clear hw0 hb0 hw1 hb1 hw2 hb2
    replace HD := Lib.hid (HD.out.grew gg)
    go_wp2_with fail
    refine (head_true _).mono ?_
    rintro r w4 ⟨rfl, g⟩
    replace HRd := Lib.hid (range_grew HRd.out g)
    replace HRp := Lib.hid (range_grew HRp.out g)
    replace HRa := Lib.hid (range_grew HRa.out g)
    replace HD := Lib.hid (HD.out.grew g)
    replace gg := gg.trans g
    clear g
    obtain ⟨z0_0, z0_1⟩ := d_cells HRd.out
    obtain ⟨z1_0, z1_1, z1_2, z1_3⟩ := p_cells0 HRp.out
    go_wp2_with fail
    go_ret
    exact ⟨rfl, gg⟩
  have q1 : decide ((n0 : Int) > 402) = false := decide_eq_false (by omega)
  have q1' : decide ((402 : Int) < (n0 : Int)) = false := decide_eq_false (by omega)
  by_cases hm : m0 ≤ 60
  rotate_left
  · have q2 : decide ((m0 : Int) > 60) = true := decide_eq_true (by omega)
    have q2' : decide ((60 : Int) < (m0 : Int)) = true := decide_eq_true (by omega)
    skip
    obtain ⟨b1, hb0⟩ : ∃ b, b = w.heap.size := ⟨_, rfl⟩
    obtain ⟨w1, hw0⟩ : ∃ x, x = w.alloc (.cells #[.slice A0 n0 c0, .slice B0 m0 e0] 25) := ⟨_, rfl⟩
    have g0 : Grew w w1 := by rw [hw0]; exact (Grew.refl w).alloc _
    have sz0 : w1.heap.size = w.heap.size + 1 := by rw [hw0]; simp
    obtain ⟨b2, hb1⟩ : ∃ b, b = w.heap.size + 1 := ⟨_, rfl⟩
    obtain ⟨w2, hw1⟩ : ∃ x, x = w1.alloc (.cells #[.int .i64 p.id, .string p.acc, .int .i64 p.c, .int .i64 p.d] 27) := ⟨_, rfl⟩
    have g1 : Grew w1 w2 := by rw [hw1]; exact (Grew.refl w1).alloc _
    have sz1 : w2.heap.size = w.heap.size + 1 + 1 := by rw [hw1]; simp [sz0]
    obtain ⟨b3, hb2⟩ : ∃ b, b = w.heap.size + 1 + 1 := ⟨_, rfl⟩
    obtain ⟨w3, hw2⟩ : ∃ x, x = w2.alloc (.cells #[.int .i64 a.q, .int .i64 a.id, .int .i64 a.k, .int .i64 a.c, .int .i64 a.d] 29) := ⟨_, rfl⟩
    have g2 : Grew w2 w3 := by rw [hw2]; exact (Grew.refl w2).alloc _
    have sz2 : w3.heap.size = w.heap.size + 1 + 1 + 1 := by rw [hw2]; simp [sz1]
    have HRd : Hid (w3.rangeAt b1 0 [.slice A0 n0 c0, .slice B0 m0 e0]) := by
      unfold Hid
      rw [hb0]
      exact range_grew (by rw [hw0]; exact range_new w _ 25) (g1.trans g2)
    have HRp : Hid (w3.rangeAt b2 0 [.int .i64 p.id, .string p.acc, .int .i64 p.c, .int .i64 p.d]) := by
      unfold Hid
      rw [hb1, ← sz0]
      exact range_grew (by rw [hw1]; exact range_new w1 _ 27) g2
    have HRa : Hid (w3.rangeAt b3 0 [.int .i64 a.q, .int .i64 a.id, .int .i64 a.k, .int .i64 a.c, .int .i64 a.d]) := by
      unfold Hid
      rw [hb2, ← sz1]
      exact range_grew (by rw [hw2]; exact range_new w2 _ 29) (Grew.refl _)
    have gg : Grew w w3 := ((g0.trans g1).trans g2)
    clear sz0 g0 sz1 g1 sz2 g2
    go_enter Try.func3, Try.ntmps3
    go_upto_region 1 with (fail)
    rw [← hw0]
    rw [← hw1]
    rw [← hw2]
    rw [← hb2, ← hb1, ← hb0]
    clear hw0 hb0 hw1 hb1 hw2 hb2
    replace HD := Lib.hid (HD.out.grew gg)
    go_wp2_with fail
    refine (head_true _).mono ?_
    rintro r w4 ⟨rfl, g⟩
    replace HRd := Lib.hid (range_grew HRd.out g)
    replace HRp := Lib.hid (range_grew HRp.out g)
    replace HRa := Lib.hid (range_grew HRa.out g)
    replace HD := Lib.hid (HD.out.grew g)
    replace gg := gg.trans g
    clear g
    obtain ⟨z0_0, z0_1⟩ := d_cells HRd.out
    obtain ⟨z1_0, z1_1, z1_2, z1_3⟩ := p_cells0 HRp.out
    go_wp2_with fail
    go_ret
    exact ⟨rfl, gg⟩
  have q2 : decide ((m0 : Int) > 60) = false := decide_eq_false (by omega)
  have q2' : decide ((60 : Int) < (m0 : Int)) = false := decide_eq_false (by omega)
  by_cases hs : acc.size ≤ 100
  rotate_left
  · have q3 : decide ((acc.size : Int) > 100) = true := decide_eq_true (by omega)
    have q3' : decide ((100 : Int) < (acc.size : Int)) = true := decide_eq_true (by omega)
    skip
    obtain ⟨b1, hb0⟩ : ∃ b, b = w.heap.size := ⟨_, rfl⟩
    obtain ⟨w1, hw0⟩ : ∃ x, x = w.alloc (.cells #[.slice A0 n0 c0, .slice B0 m0 e0] 25) := ⟨_, rfl⟩
    have g0 : Grew w w1 := by rw [hw0]; exact (Grew.refl w).alloc _
    have sz0 : w1.heap.size = w.heap.size + 1 := by rw [hw0]; simp
    obtain ⟨b2, hb1⟩ : ∃ b, b = w.heap.size + 1 := ⟨_, rfl⟩
    obtain ⟨w2, hw1⟩ : ∃ x, x = w1.alloc (.cells #[.int .i64 p.id, .string p.acc, .int .i64 p.c, .int .i64 p.d] 27) := ⟨_, rfl⟩
    have g1 : Grew w1 w2 := by rw [hw1]; exact (Grew.refl w1).alloc _
    have sz1 : w2.heap.size = w.heap.size + 1 + 1 := by rw [hw1]; simp [sz0]
    obtain ⟨b3, hb2⟩ : ∃ b, b = w.heap.size + 1 + 1 := ⟨_, rfl⟩
    obtain ⟨w3, hw2⟩ : ∃ x, x = w2.alloc (.cells #[.int .i64 a.q, .int .i64 a.id, .int .i64 a.k, .int .i64 a.c, .int .i64 a.d] 29) := ⟨_, rfl⟩
    have g2 : Grew w2 w3 := by rw [hw2]; exact (Grew.refl w2).alloc _
    have sz2 : w3.heap.size = w.heap.size + 1 + 1 + 1 := by rw [hw2]; simp [sz1]
    have HRd : Hid (w3.rangeAt b1 0 [.slice A0 n0 c0, .slice B0 m0 e0]) := by
      unfold Hid
      rw [hb0]
      exact range_grew (by rw [hw0]; exact range_new w _ 25) (g1.trans g2)
    have HRp : Hid (w3.rangeAt b2 0 [.int .i64 p.id, .string p.acc, .int .i64 p.c, .int .i64 p.d]) := by
      unfold Hid
      rw [hb1, ← sz0]
      exact range_grew (by rw [hw1]; exact range_new w1 _ 27) g2
    have HRa : Hid (w3.rangeAt b3 0 [.int .i64 a.q, .int .i64 a.id, .int .i64 a.k, .int .i64 a.c, .int .i64 a.d]) := by
      unfold Hid
      rw [hb2, ← sz1]
      exact range_grew (by rw [hw2]; exact range_new w2 _ 29) (Grew.refl _)
    have gg : Grew w w3 := ((g0.trans g1).trans g2)
    clear sz0 g0 sz1 g1 sz2 g2
    go_enter Try.func3, Try.ntmps3
    go_upto_region 1 with (fail)
    rw [← hw0]
    rw [← hw1]
    rw [← hw2]
    rw [← hb2, ← hb1, ← hb0]
    clear hw0 hb0 hw1 hb1 hw2 hb2
    replace HD := Lib.hid (HD.out.grew gg)
    go_wp2_with fail
    refine (head_true _).mono ?_
    rintro r w4 ⟨rfl, g⟩
    replace HRd := Lib.hid (range_grew HRd.out g)
    replace HRp := Lib.hid (range_grew HRp.out g)
    replace HRa := Lib.hid (range_grew HRa.out g)
    replace HD := Lib.hid (HD.out.grew g)
    replace gg := gg.trans g
    clear g
    obtain ⟨z0_0, z0_1⟩ := d_cells HRd.out
    obtain ⟨z1_0, z1_1, z1_2, z1_3⟩ := p_cells0 HRp.out
    go_wp2_with fail
    go_ret
    exact ⟨rfl, gg⟩
  have q3 : decide ((acc.size : Int) > 100) = false := decide_eq_false (by omega)
  have q3' : decide ((100 : Int) < (acc.size : Int)) = false := decide_eq_false (by omega)
  by_cases hps : p.acc.size ≤ 100
  rotate_left
  · have q4 : decide ((p.acc.size : Int) > 100) = true := decide_eq_true (by omega)
    have q4' : decide ((100 : Int) < (p.acc.size : Int)) = true := decide_eq_true (by omega)
    skip
    obtain ⟨b1, hb0⟩ : ∃ b, b = w.heap.size := ⟨_, rfl⟩
    obtain ⟨w1, hw0⟩ : ∃ x, x = w.alloc (.cells #[.slice A0 n0 c0, .slice B0 m0 e0] 25) := ⟨_, rfl⟩
    have g0 : Grew w w1 := by rw [hw0]; exact (Grew.refl w).alloc _
    have sz0 : w1.heap.size = w.heap.size + 1 := by rw [hw0]; simp
    obtain ⟨b2, hb1⟩ : ∃ b, b = w.heap.size + 1 := ⟨_, rfl⟩
    obtain ⟨w2, hw1⟩ : ∃ x, x = w1.alloc (.cells #[.int .i64 p.id, .string p.acc, .int .i64 p.c, .int .i64 p.d] 27) := ⟨_, rfl⟩
    have g1 : Grew w1 w2 := by rw [hw1]; exact (Grew.refl w1).alloc _
    have sz1 : w2.heap.size = w.heap.size + 1 + 1 := by rw [hw1]; simp [sz0]
    obtain ⟨b3, hb2⟩ : ∃ b, b = w.heap.size + 1 + 1 := ⟨_, rfl⟩
    obtain ⟨w3, hw2⟩ : ∃ x, x = w2.alloc (.cells #[.int .i64 a.q, .int .i64 a.id, .int .i64 a.k, .int .i64 a.c, .int .i64 a.d] 29) := ⟨_, rfl⟩
    have g2 : Grew w2 w3 := by rw [hw2]; exact (Grew.refl w2).alloc _
    have sz2 : w3.heap.size = w.heap.size + 1 + 1 + 1 := by rw [hw2]; simp [sz1]
    have HRd : Hid (w3.rangeAt b1 0 [.slice A0 n0 c0, .slice B0 m0 e0]) := by
      unfold Hid
      rw [hb0]
      exact range_grew (by rw [hw0]; exact range_new w _ 25) (g1.trans g2)
    have HRp : Hid (w3.rangeAt b2 0 [.int .i64 p.id, .string p.acc, .int .i64 p.c, .int .i64 p.d]) := by
      unfold Hid
      rw [hb1, ← sz0]
      exact range_grew (by rw [hw1]; exact range_new w1 _ 27) g2
    have HRa : Hid (w3.rangeAt b3 0 [.int .i64 a.q, .int .i64 a.id, .int .i64 a.k, .int .i64 a.c, .int .i64 a.d]) := by
      unfold Hid
      rw [hb2, ← sz1]
      exact range_grew (by rw [hw2]; exact range_new w2 _ 29) (Grew.refl _)
    have gg : Grew w w3 := ((g0.trans g1).trans g2)
    clear sz0 g0 sz1 g1 sz2 g2
    go_enter Try.func3, Try.ntmps3
    go_upto_region 1 with (fail)
    rw [← hw0]
    rw [← hw1]
    rw [← hw2]
    rw [← hb2, ← hb1, ← hb0]
    clear hw0 hb0 hw1 hb1 hw2 hb2
    replace HD := Lib.hid (HD.out.grew gg)
    go_wp2_with fail
    refine (head_true _).mono ?_
    rintro r w4 ⟨rfl, g⟩
    replace HRd := Lib.hid (range_grew HRd.out g)
    replace HRp := Lib.hid (range_grew HRp.out g)
    replace HRa := Lib.hid (range_grew HRa.out g)
    replace HD := Lib.hid (HD.out.grew g)
    replace gg := gg.trans g
    clear g
    obtain ⟨z0_0, z0_1⟩ := d_cells HRd.out
    obtain ⟨z1_0, z1_1, z1_2, z1_3⟩ := p_cells0 HRp.out
    go_wp2_with fail
    go_ret
    exact ⟨rfl, gg⟩
  have q4 : decide ((p.acc.size : Int) > 100) = false := decide_eq_false (by omega)
  have q4' : decide ((100 : Int) < (p.acc.size : Int)) = false := decide_eq_false (by omega)
  obtain ⟨b1, hb0⟩ : ∃ b, b = w.heap.size := ⟨_, rfl⟩
  obtain ⟨w1, hw0⟩ : ∃ x, x = w.alloc (.cells #[.slice A0 n0 c0, .slice B0 m0 e0] 25) := ⟨_, rfl⟩
  have g0 : Grew w w1 := by rw [hw0]; exact (Grew.refl w).alloc _
  have sz0 : w1.heap.size = w.heap.size + 1 := by rw [hw0]; simp
  obtain ⟨b2, hb1⟩ : ∃ b, b = w.heap.size + 1 := ⟨_, rfl⟩
  obtain ⟨w2, hw1⟩ : ∃ x, x = w1.alloc (.cells #[.int .i64 p.id, .string p.acc, .int .i64 p.c, .int .i64 p.d] 27) := ⟨_, rfl⟩
  have g1 : Grew w1 w2 := by rw [hw1]; exact (Grew.refl w1).alloc _
  have sz1 : w2.heap.size = w.heap.size + 1 + 1 := by rw [hw1]; simp [sz0]
  obtain ⟨b3, hb2⟩ : ∃ b, b = w.heap.size + 1 + 1 := ⟨_, rfl⟩
  obtain ⟨w3, hw2⟩ : ∃ x, x = w2.alloc (.cells #[.int .i64 a.q, .int .i64 a.id, .int .i64 a.k, .int .i64 a.c, .int .i64 a.d] 29) := ⟨_, rfl⟩
  have g2 : Grew w2 w3 := by rw [hw2]; exact (Grew.refl w2).alloc _
  have sz2 : w3.heap.size = w.heap.size + 1 + 1 + 1 := by rw [hw2]; simp [sz1]
  have HRd : Hid (w3.rangeAt b1 0 [.slice A0 n0 c0, .slice B0 m0 e0]) := by
    unfold Hid
    rw [hb0]
    exact range_grew (by rw [hw0]; exact range_new w _ 25) (g1.trans g2)
  have HRp : Hid (w3.rangeAt b2 0 [.int .i64 p.id, .string p.acc, .int .i64 p.c, .int .i64 p.d]) := by
    unfold Hid
    rw [hb1, ← sz0]
    exact range_grew (by rw [hw1]; exact range_new w1 _ 27) g2
  have HRa : Hid (w3.rangeAt b3 0 [.int .i64 a.q, .int .i64 a.id, .int .i64 a.k, .int .i64 a.c, .int .i64 a.d]) := by
    unfold Hid
    rw [hb2, ← sz1]
    exact range_grew (by rw [hw2]; exact range_new w2 _ 29) (Grew.refl _)
  have gg : Grew w w3 := ((g0.trans g1).trans g2)
  clear sz0 g0 sz1 g1 sz2 g2
  go_enter Try.func3, Try.ntmps3
  go_upto_region 1 with (fail)
  rw [← hw0]
  rw [← hw1]
  rw [← hw2]
  rw [← hb2, ← hb1, ← hb0]
  clear hw0 hb0 hw1 hb1 hw2 hb2
  replace HD := Lib.hid (HD.out.grew gg)
  go_wp2_with fail
  refine (head_true _).mono ?_
  rintro r w4 ⟨rfl, g⟩
  replace HRd := Lib.hid (range_grew HRd.out g)
  replace HRp := Lib.hid (range_grew HRp.out g)
  replace HRa := Lib.hid (range_grew HRa.out g)
  replace HD := Lib.hid (HD.out.grew g)
  replace gg := gg.trans g
  clear g
  obtain ⟨z1, hz1⟩ : ∃ z, sendE d p = z := ⟨_, rfl⟩
  obtain ⟨d1, hd1⟩ : ∃ z, sendD d p = z := ⟨_, rfl⟩
  obtain ⟨z2, hz2⟩ : ∃ z, applyE d a = z := ⟨_, rfl⟩
  obtain ⟨d2, hd2⟩ : ∃ z, applyD d a = z := ⟨_, rfl⟩
  have HZ1 := Lib.hid hz1
  have HZ2 := Lib.hid hz2
  have HE1 := Lib.hid hd1
  have HE2 := Lib.hid hd2
  clear hz1 hz2 hd1 hd2
  obtain ⟨z0_0, z0_1⟩ := d_cells HRd.out
  obtain ⟨z1_0, z1_1, z1_2, z1_3⟩ := p_cells0 HRp.out
  go_wp2_with fail
  clear z0_0 z0_1 z1_0 z1_1 z1_2 z1_3
  refine (send_val HD.out hp HZ1.out HE1.out).mono ?_
  rintro r w7 ⟨A1, n1, c1, B1, m1, e1, rfl, hk1, g⟩
  replace HRd := Lib.hid (range_grew HRd.out g)
  replace HRp := Lib.hid (range_grew HRp.out g)
  replace HRa := Lib.hid (range_grew HRa.out g)
  replace HD := Lib.hid (HD.out.grew g)
  replace gg := gg.trans g
  clear g
  obtain ⟨w8, hw⟩ : ∃ y, y = w7.alloc (.cells #[.slice A1 n1 c1, .slice B1 m1 e1] 25) := ⟨_, rfl⟩
  have g : Grew w7 w8 := by rw [hw]; exact (Grew.refl _).alloc _
  obtain ⟨b11, hb⟩ : ∃ z, z = w7.heap.size := ⟨_, rfl⟩
  have HR1 : Hid (w8.rangeAt b11 0 [.slice A1 n1 c1, .slice B1 m1 e1]) := by unfold Hid; rw [hw, hb]; exact range_new w7 _ 25
  have HD1 := Lib.hid (hk1.grew g)
  clear hk1
  replace HRd := Lib.hid (range_grew HRd.out g)
  replace HRp := Lib.hid (range_grew HRp.out g)
  replace HRa := Lib.hid (range_grew HRa.out g)
  replace HD := Lib.hid (HD.out.grew g)
  replace gg := gg.trans g
  clear g
  go_upto_region 5 with (fail)
  rw [← hw, ← hb]
  clear hw hb
  clear q1 q1' q2 q2' q3 q3' q4 q4'
  obtain ⟨z2_0, z2_1⟩ := d_cells HRd.out
  obtain ⟨z3_0, z3_1, z3_2, z3_3⟩ := p_cells0 HRp.out
  go_wp2_with fail
  clear z2_0 z2_1 z3_0 z3_1 z3_2 z3_3
  refine (rsend_val HD.out hp HZ1.out HE1.out).mono ?_
  rintro r w9 ⟨A2, n2, c2, B2, m2, e2, rfl, hk2, g⟩
  replace HRd := Lib.hid (range_grew HRd.out g)
  replace HRp := Lib.hid (range_grew HRp.out g)
  replace HRa := Lib.hid (range_grew HRa.out g)
  replace HR1 := Lib.hid (range_grew HR1.out g)
  replace HD := Lib.hid (HD.out.grew g)
  replace HD1 := Lib.hid (HD1.out.grew g)
  replace gg := gg.trans g
  clear g
  obtain ⟨w10, hw⟩ : ∃ y, y = w9.alloc (.cells #[.slice A2 n2 c2, .slice B2 m2 e2] 25) := ⟨_, rfl⟩
  have g : Grew w9 w10 := by rw [hw]; exact (Grew.refl _).alloc _
  obtain ⟨b12, hb⟩ : ∃ z, z = w9.heap.size := ⟨_, rfl⟩
  have HR2 : Hid (w10.rangeAt b12 0 [.slice A2 n2 c2, .slice B2 m2 e2]) := by unfold Hid; rw [hw, hb]; exact range_new w9 _ 25
  have HD2 := Lib.hid (hk2.grew g)
  clear hk2
  replace HRd := Lib.hid (range_grew HRd.out g)
  replace HRp := Lib.hid (range_grew HRp.out g)
  replace HRa := Lib.hid (range_grew HRa.out g)
  replace HR1 := Lib.hid (range_grew HR1.out g)
  replace HD := Lib.hid (HD.out.grew g)
  replace HD1 := Lib.hid (HD1.out.grew g)
  replace gg := gg.trans g
  clear g
  go_upto_region 6 with (fail)
  rw [← hw, ← hb]
  clear hw hb
  obtain ⟨z4_0, z4_1⟩ := d_cells HRd.out
  obtain ⟨z5_0, z5_1, z5_2, z5_3, z5_4⟩ := a_cells0 HRa.out
  go_wp2_with fail
  clear z4_0 z4_1 z5_0 z5_1 z5_2 z5_3 z5_4
  refine (apply_val HD.out HZ2.out HE2.out).mono ?_
  rintro r w11 ⟨A3, n3, c3, B3, m3, e3, rfl, hk3, g⟩
  replace HRd := Lib.hid (range_grew HRd.out g)
  replace HRp := Lib.hid (range_grew HRp.out g)
  replace HRa := Lib.hid (range_grew HRa.out g)
  replace HR1 := Lib.hid (range_grew HR1.out g)
  replace HR2 := Lib.hid (range_grew HR2.out g)
  replace HD := Lib.hid (HD.out.grew g)
  replace HD1 := Lib.hid (HD1.out.grew g)
  replace HD2 := Lib.hid (HD2.out.grew g)
  replace gg := gg.trans g
  clear g
  obtain ⟨w12, hw⟩ : ∃ y, y = w11.alloc (.cells #[.slice A3 n3 c3, .slice B3 m3 e3] 25) := ⟨_, rfl⟩
  have g : Grew w11 w12 := by rw [hw]; exact (Grew.refl _).alloc _
  obtain ⟨b13, hb⟩ : ∃ z, z = w11.heap.size := ⟨_, rfl⟩
  have HR3 : Hid (w12.rangeAt b13 0 [.slice A3 n3 c3, .slice B3 m3 e3]) := by unfold Hid; rw [hw, hb]; exact range_new w11 _ 25
  have HD3 := Lib.hid (hk3.grew g)
  clear hk3
  replace HRd := Lib.hid (range_grew HRd.out g)
  replace HRp := Lib.hid (range_grew HRp.out g)
  replace HRa := Lib.hid (range_grew HRa.out g)
  replace HR1 := Lib.hid (range_grew HR1.out g)
  replace HR2 := Lib.hid (range_grew HR2.out g)
  replace HD := Lib.hid (HD.out.grew g)
  replace HD1 := Lib.hid (HD1.out.grew g)
  replace HD2 := Lib.hid (HD2.out.grew g)
  replace gg := gg.trans g
  clear g
  go_upto_region 7 with (fail)
  rw [← hw, ← hb]
  clear hw hb
  obtain ⟨z6_0, z6_1⟩ := d_cells HRd.out
  obtain ⟨z7_0, z7_1, z7_2, z7_3, z7_4⟩ := a_cells0 HRa.out
  go_wp2_with fail
  clear z6_0 z6_1 z7_0 z7_1 z7_2 z7_3 z7_4
  refine (rapply_val HD.out HZ2.out HE2.out).mono ?_
  rintro r w13 ⟨A4, n4, c4, B4, m4, e4, rfl, hk4, g⟩
  replace HRd := Lib.hid (range_grew HRd.out g)
  replace HRp := Lib.hid (range_grew HRp.out g)
  replace HRa := Lib.hid (range_grew HRa.out g)
  replace HR1 := Lib.hid (range_grew HR1.out g)
  replace HR2 := Lib.hid (range_grew HR2.out g)
  replace HR3 := Lib.hid (range_grew HR3.out g)
  replace HD := Lib.hid (HD.out.grew g)
  replace HD1 := Lib.hid (HD1.out.grew g)
  replace HD2 := Lib.hid (HD2.out.grew g)
  replace HD3 := Lib.hid (HD3.out.grew g)
  replace gg := gg.trans g
  clear g
  obtain ⟨w14, hw⟩ : ∃ y, y = w13.alloc (.cells #[.slice A4 n4 c4, .slice B4 m4 e4] 25) := ⟨_, rfl⟩
  have g : Grew w13 w14 := by rw [hw]; exact (Grew.refl _).alloc _
  obtain ⟨b14, hb⟩ : ∃ z, z = w13.heap.size := ⟨_, rfl⟩
  have HR4 : Hid (w14.rangeAt b14 0 [.slice A4 n4 c4, .slice B4 m4 e4]) := by unfold Hid; rw [hw, hb]; exact range_new w13 _ 25
  have HD4 := Lib.hid (hk4.grew g)
  clear hk4
  replace HRd := Lib.hid (range_grew HRd.out g)
  replace HRp := Lib.hid (range_grew HRp.out g)
  replace HRa := Lib.hid (range_grew HRa.out g)
  replace HR1 := Lib.hid (range_grew HR1.out g)
  replace HR2 := Lib.hid (range_grew HR2.out g)
  replace HR3 := Lib.hid (range_grew HR3.out g)
  replace HD := Lib.hid (HD.out.grew g)
  replace HD1 := Lib.hid (HD1.out.grew g)
  replace HD2 := Lib.hid (HD2.out.grew g)
  replace HD3 := Lib.hid (HD3.out.grew g)
  replace gg := gg.trans g
  clear g
  go_upto_region 8 with (fail)
  rw [← hw, ← hb]
  clear hw hb
  obtain ⟨sp, hsp⟩ : ∃ z, spentL d acc = z := ⟨_, rfl⟩
  have HSP := Lib.hid hsp
  obtain ⟨el, hel⟩ : ∃ z, entL d = z := ⟨_, rfl⟩
  have HEL := Lib.hid hel
  clear hsp hel
  have qz1 : (z1 == z1) = true := by simp
  have qz2 : (z2 == z2) = true := by simp
  have qsp : (sp == sp) = true := by simp
  obtain ⟨wx, hwx⟩ : ∃ y, y = w14.drew := ⟨_, rfl⟩
  have g : Grew w14 wx := by rw [hwx]; exact (Grew.refl w14).drew
  replace HRd := Lib.hid (range_grew HRd.out g)
  replace HRp := Lib.hid (range_grew HRp.out g)
  replace HRa := Lib.hid (range_grew HRa.out g)
  replace HR1 := Lib.hid (range_grew HR1.out g)
  replace HR2 := Lib.hid (range_grew HR2.out g)
  replace HR3 := Lib.hid (range_grew HR3.out g)
  replace HR4 := Lib.hid (range_grew HR4.out g)
  replace HD := Lib.hid (HD.out.grew g)
  replace HD1 := Lib.hid (HD1.out.grew g)
  replace HD2 := Lib.hid (HD2.out.grew g)
  replace HD3 := Lib.hid (HD3.out.grew g)
  replace HD4 := Lib.hid (HD4.out.grew g)
  replace gg := gg.trans g
  clear g
  have hC : ∀ w', Grew wx w' → (w'.cell? ⟨b1, 0, none⟩ = some (.slice A0 n0 c0) ∧ w'.cell? ⟨b1, 1, none⟩ = some (.slice B0 m0 e0)) ∧ (w'.cell? ⟨b11, 0, none⟩ = some (.slice A1 n1 c1) ∧ w'.cell? ⟨b11, 1, none⟩ = some (.slice B1 m1 e1)) ∧ (w'.cell? ⟨b12, 0, none⟩ = some (.slice A2 n2 c2) ∧ w'.cell? ⟨b12, 1, none⟩ = some (.slice B2 m2 e2)) ∧ (w'.cell? ⟨b13, 0, none⟩ = some (.slice A3 n3 c3) ∧ w'.cell? ⟨b13, 1, none⟩ = some (.slice B3 m3 e3)) ∧ (w'.cell? ⟨b14, 0, none⟩ = some (.slice A4 n4 c4) ∧ w'.cell? ⟨b14, 1, none⟩ = some (.slice B4 m4 e4)) := fun w' g' => ⟨d_cells (range_grew HRd.out g'), d_cells (range_grew HR1.out g'), d_cells (range_grew HR2.out g'), d_cells (range_grew HR3.out g'), d_cells (range_grew HR4.out g')⟩
  refine wp_region_G (G := Grew) (by kernel_rfl) Grew.refl 38 ?_
  rw [← hwx]
  clear hwx
  refine wpAnyG_takes Grew.refl (fun _ _ _ => Grew.trans) (fun _ _ _ _ _ h => h) [0, 1, 2, 3, 4, 5, 6, 7, 8, 9, 10, 11, 12, 13, 14, 15, 16, 17, 18, 19, 20, 21, 22, 23, 24, 25, 26, 27, 28, 29, 30, 31, 33] (fuel' := 5) (by kernel_rfl) (by kernel_rfl) (by simp only [pickOps, List.getElem?_toArray, List.getElem?_cons_zero, List.getElem?_cons_succ]; rfl) ?_
  repeat (first
    | (refine TakeAll.pure (v := ?_) (by rfl) ?_ ?_; rotate_left; (intro w' g'; obtain ⟨⟨hC0_0, hC0_1⟩, ⟨hC1_0, hC1_1⟩, ⟨hC2_0, hC2_1⟩, ⟨hC3_0, hC3_1⟩, ⟨hC4_0, hC4_1⟩⟩ := hC w' g'; go_simp; first | done | with_reducible rfl); (simp only [Act.put, List.setIfInBounds_toArray, List.set_cons_zero, List.set_cons_succ]))
    | (refine TakeAll.skip (by rfl) ?_; (simp only [Act.put, List.setIfInBounds_toArray, List.set_cons_zero, List.set_cons_succ])))
  refine TakeAll.call (by rfl) 15 _ (fun _ => by go_simp; first | done | rfl) (fun w' g' => same_val (HD1.out.grew g') (HD2.out.grew g') (decide_eq_true rfl)) ?_
  simp only [Act.put, List.setIfInBounds_toArray, List.set_cons_zero, List.set_cons_succ]
  repeat (first
    | (refine TakeAll.pure (v := ?_) (by rfl) ?_ ?_; rotate_left; (intro w' g'; obtain ⟨⟨hC0_0, hC0_1⟩, ⟨hC1_0, hC1_1⟩, ⟨hC2_0, hC2_1⟩, ⟨hC3_0, hC3_1⟩, ⟨hC4_0, hC4_1⟩⟩ := hC w' g'; go_simp; first | done | with_reducible rfl); (simp only [Act.put, List.setIfInBounds_toArray, List.set_cons_zero, List.set_cons_succ]))
    | (refine TakeAll.skip (by rfl) ?_; (simp only [Act.put, List.setIfInBounds_toArray, List.set_cons_zero, List.set_cons_succ])))
  refine TakeAll.call (by rfl) 15 _ (fun _ => by go_simp; first | done | rfl) (fun w' g' => same_val (HD3.out.grew g') (HD4.out.grew g') (decide_eq_true rfl)) ?_
  simp only [Act.put, List.setIfInBounds_toArray, List.set_cons_zero, List.set_cons_succ]
  repeat (first
    | (refine TakeAll.pure (v := ?_) (by rfl) ?_ ?_; rotate_left; (intro w' g'; obtain ⟨⟨hC0_0, hC0_1⟩, ⟨hC1_0, hC1_1⟩, ⟨hC2_0, hC2_1⟩, ⟨hC3_0, hC3_1⟩, ⟨hC4_0, hC4_1⟩⟩ := hC w' g'; go_simp; first | done | with_reducible rfl); (simp only [Act.put, List.setIfInBounds_toArray, List.set_cons_zero, List.set_cons_succ]))
    | (refine TakeAll.skip (by rfl) ?_; (simp only [Act.put, List.setIfInBounds_toArray, List.set_cons_zero, List.set_cons_succ])))
  refine TakeAll.call (by rfl) 16 _ (fun _ => by go_simp; first | done | rfl) (fun w' g' => spent_val (HD.out.grew g') HSP.out) ?_
  simp only [Act.put, List.setIfInBounds_toArray, List.set_cons_zero, List.set_cons_succ]
  repeat (first
    | (refine TakeAll.pure (v := ?_) (by rfl) ?_ ?_; rotate_left; (intro w' g'; obtain ⟨⟨hC0_0, hC0_1⟩, ⟨hC1_0, hC1_1⟩, ⟨hC2_0, hC2_1⟩, ⟨hC3_0, hC3_1⟩, ⟨hC4_0, hC4_1⟩⟩ := hC w' g'; go_simp; first | done | with_reducible rfl); (simp only [Act.put, List.setIfInBounds_toArray, List.set_cons_zero, List.set_cons_succ]))
    | (refine TakeAll.skip (by rfl) ?_; (simp only [Act.put, List.setIfInBounds_toArray, List.set_cons_zero, List.set_cons_succ])))
  refine TakeAll.call (by rfl) 17 _ (fun _ => by go_simp; first | done | rfl) (fun w' g' => rspent_val (HD.out.grew g') HSP.out) ?_
  simp only [Act.put, List.setIfInBounds_toArray, List.set_cons_zero, List.set_cons_succ]
  repeat (first
    | (refine TakeAll.pure (v := ?_) (by rfl) ?_ ?_; rotate_left; (intro w' g'; obtain ⟨⟨hC0_0, hC0_1⟩, ⟨hC1_0, hC1_1⟩, ⟨hC2_0, hC2_1⟩, ⟨hC3_0, hC3_1⟩, ⟨hC4_0, hC4_1⟩⟩ := hC w' g'; go_simp; first | done | with_reducible rfl); (simp only [Act.put, List.setIfInBounds_toArray, List.set_cons_zero, List.set_cons_succ]))
    | (refine TakeAll.skip (by rfl) ?_; (simp only [Act.put, List.setIfInBounds_toArray, List.set_cons_zero, List.set_cons_succ])))
  refine TakeAll.nil ?_
  refine wpAnyG_stepW (i := 32) (by kernel_rfl) (fuel' := 4) (by kernel_rfl) (by simp only [pickOps, List.getElem?_toArray, List.getElem?_cons_zero, List.getElem?_cons_succ]; rfl) (by rfl) ?_
  intro v1 g1 K hK
  refine wp_call 19 #[.agg #[.slice A0 n0 c0, .slice B0 m0 e0]] (by go_simp; first | done | rfl) ?_
  refine (entries_val (HD.out.grew g1) HEL.out).mono ?_
  rintro r v2 ⟨A5, n5, c5, rfl, hE5, g2⟩
  refine ⟨_, rfl, hK _ _ g2 ?_⟩
  clear hK K
  simp only [Act.put, List.setIfInBounds_toArray, List.set_cons_zero, List.set_cons_succ]
  refine wpAnyG_stepW (i := 34) (by kernel_rfl) (fuel' := 3) (by kernel_rfl) (by simp only [pickOps, List.getElem?_toArray, List.getElem?_cons_zero, List.getElem?_cons_succ]; rfl) (by rfl) ?_
  intro v3 g3 K hK
  refine wp_call 20 #[.agg #[.slice A0 n0 c0, .slice B0 m0 e0]] (by go_simp; first | done | rfl) ?_
  refine (rents_val (HD.out.grew ((g1.trans g2).trans g3)) HEL.out).mono ?_
  rintro r v4 ⟨A6, n6, c6, rfl, hE6, g4⟩
  refine ⟨_, rfl, hK _ _ g4 ?_⟩
  clear hK K
  simp only [Act.put, List.setIfInBounds_toArray, List.set_cons_zero, List.set_cons_succ]
  refine wpAnyG_stepW (i := 35) (by kernel_rfl) (fuel' := 2) (by kernel_rfl) (by simp only [pickOps, List.getElem?_toArray, List.getElem?_cons_zero, List.getElem?_cons_succ]; rfl) (by rfl) ?_
  intro v5 g5 K hK
  refine wp_call 18 #[.slice A5 n5 c5, .slice A6 n6 c6] (by go_simp; first | done | rfl) ?_
  refine (sameE_any A5 n5 c5 A6 n6 c6 el el v5 (hE5.grew ((g3.trans g4).trans g5)) (hE6.grew g5)).mono ?_
  rw [decide_eq_true rfl]
  rintro r v6 ⟨rfl, g6⟩
  refine ⟨_, rfl, hK _ _ g6 ?_⟩
  clear hK K
  simp only [Act.put, List.setIfInBounds_toArray, List.set_cons_zero, List.set_cons_succ]
  refine wpAnyG_takes Grew.refl (fun _ _ _ => Grew.trans) (fun _ _ _ _ _ h => h) [36, 37] (fuel' := 0) (by kernel_rfl) (by kernel_rfl) (by simp only [pickOps, List.getElem?_toArray, List.getElem?_cons_zero, List.getElem?_cons_succ]; rfl) ?_
  repeat (first
    | (refine TakeAll.pure (v := ?_) (by rfl) ?_ ?_; rotate_left; (intro w' g'; go_simp; first | done | with_reducible rfl); (simp only [Act.put, List.setIfInBounds_toArray, List.set_cons_zero, List.set_cons_succ]))
    | (refine TakeAll.skip (by rfl) ?_; (simp only [Act.put, List.setIfInBounds_toArray, List.set_cons_zero, List.set_cons_succ])))
  refine TakeAll.nil ?_
  refine ⟨by kernel_rfl, fun v7 g7 => ?_⟩
  have gE := gg.trans (((((g1.trans g2).trans g3).trans g4).trans g5).trans (g6.trans g7))
  clear hC
  go_wp2_with fail
  go_ret
  exact ⟨rfl, gE⟩
end Go.Proofs.Ytaocjobbfcfleaa
