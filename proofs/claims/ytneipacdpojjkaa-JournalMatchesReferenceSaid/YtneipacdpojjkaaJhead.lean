/-
  The head of the journal's laws.
-/
import Derived.Test.YtneipacdpojjkaaAppD
import Derived.Lib.SmallJoins
namespace Go.Proofs.Ytneipacdpojjkaa
open Go.RowKit Go.Proofs WageMem WageDisk

theorem recs_int {v : Value} {d : Ds} {w : World} (h : Disk w v d) {ls : List (List UInt8)} {e : Int} (hl : jRecs d = ls) (he : (jEnd d : Int) = e) : Calls Try.prog 36 #[v] w (RetRecs ls e w) := by
  subst hl he; exact recs_any v d w h

theorem builtM {w : World} {t : TypeId} {fr : Nat × Nat} {g : Nat} (bs : List UInt8) (cs : Array Value) (h : cs = (bs.map bv).toArray) (n : Nat) (hn : bs.length = n) (hm : n ≤ 1000) (hg : g = w.heap.size) : Bytes (w.alloc (.cells cs t fr)) (some ⟨g, 0, none⟩) n n bs := by
  subst h hg
  refine ⟨hn, Nat.le_refl _, by unfold maxLen; omega, by simp; exact hn, fun _ => ⟨w.heap.size, 0, rfl, fun j u hu => ?_⟩, fun h => by cases h⟩
  rw [Nat.zero_add, cell_of_row _ _ _ _ _ _ (heap_alloc_new w _)]
  simpa using hu

set_option maxRecDepth 100000 in
set_option maxHeartbeats 16000000 in
theorem jhead_true (w : World) : Calls Try.prog 32 #[] w fun e w' => e = .returned (.bool true) ∧ Grew w w' := by
  have E1 := Lib.hid h_new.1
  have E2 := Lib.hid h_new.2
  have E3 := Lib.hid h_app1
  have E4 := Lib.hid h_app2
  have E5 := Lib.hid h_recs
  have E6 : Hid ((jEnd H2 : Int) = 30) := by unfold Hid; rw [h_end]; rfl
  have E7 := Lib.hid h_none.1
  have E8 : Hid ((jEnd H0 : Int) = 0) := by unfold Hid; rw [h_none.2]; rfl
  have E9 := Lib.hid h_small.1
  have E10 := Lib.hid h_small.2
  have E11 := Lib.hid h_bytes
  go_enter Try.func32, Try.ntmps32
  go_wp2_with fail
  refine (new_val (d := H0) rfl E1.out).mono ?_
  rintro e w1 ⟨B1, m1, f1, C1, p1, q1, rfl, fr1, g1'⟩
  have g1 : Grew w w1 := (Grew.refl _).trans g1'
  have kc1 := Joins.run_convert_bytes_const_at (P := Try.prog) (w1.alloc (.cells #[.slice B1 m1 f1, .slice C1 p1 q1] 25)) 22 5 #[.int .u8 97] 1 1 (w1.heap.size + 1) (by simp) Try.underlying22 Try.underlying5
  go_wp2_with fail
  obtain ⟨x1, hx1⟩ : ∃ x, x = w1.alloc (.cells #[.slice B1 m1 f1, .slice C1 p1 q1] 25) := ⟨_, rfl⟩
  have ga1 : Grew w1 x1 := by rw [hx1]; exact (Grew.refl _).alloc _
  have gs1 : Grew w x1 := g1.trans ga1
  have k1 : Hid (Disk x1 (.agg #[.slice B1 m1 f1, .slice C1 p1 q1]) H0) := fr1.now.grew ga1
  have b10 : x1.cell? ⟨w1.heap.size, 0, none⟩ = some (.slice B1 m1 f1) := by rw [hx1]; simp
  have b11 : x1.cell? ⟨w1.heap.size, 1, none⟩ = some (.slice C1 p1 q1) := by rw [hx1]; simp
  rw [← hx1]
  have hs1 : w1.heap.size + 1 = x1.heap.size := by rw [hx1]; simp
  clear kc1
  have gg : Grew w x1 := gs1
  clear hx1 fr1 g1' g1 ga1 gs1
  refine (append_val (d' := H1) (k1.out.grew ((Grew.refl _).alloc _)) (builtM [(97 : UInt8)] _ rfl 1 rfl (by decide) hs1) rfl E3.out).mono ?_
  try clear hs1
  rintro e w2 ⟨B2, m2, f2, C2, p2, q2, rfl, fr2, g2'⟩
  have g2 : Grew x1 w2 := ((Grew.refl x1).alloc _).trans g2'
  replace b10 := g2.cell b10
  replace b11 := g2.cell b11
  have sz21 : w1.heap.size < w2.heap.size := World.block_lt_of_cell? _ _ b10
  have kc2 := Joins.run_convert_bytes_const_at (P := Try.prog) (w2.alloc (.cells #[.slice B2 m2 f2, .slice C2 p2 q2] 25)) 22 5 #[.int .u8 98, .int .u8 99, .int .u8 100] 3 3 (w2.heap.size + 1) (by simp) Try.underlying22 Try.underlying5
  go_wp2_with fail
  obtain ⟨x2, hx2⟩ : ∃ x, x = w2.alloc (.cells #[.slice B2 m2 f2, .slice C2 p2 q2] 25) := ⟨_, rfl⟩
  have ga2 : Grew w2 x2 := by rw [hx2]; exact (Grew.refl _).alloc _
  have gs2 : Grew x1 x2 := g2.trans ga2
  have k2 : Hid (Disk x2 (.agg #[.slice B2 m2 f2, .slice C2 p2 q2]) H1) := fr2.now.grew ga2
  replace b10 := ga2.cell b10
  replace b11 := ga2.cell b11
  replace k1 := Lib.hid (k1.out.grew gs2)
  have b20 : x2.cell? ⟨w2.heap.size, 0, none⟩ = some (.slice B2 m2 f2) := by rw [hx2]; simp
  have b21 : x2.cell? ⟨w2.heap.size, 1, none⟩ = some (.slice C2 p2 q2) := by rw [hx2]; simp
  rw [← hx2]
  have hs2 : w2.heap.size + 1 = x2.heap.size := by rw [hx2]; simp
  clear kc2
  replace gg := gg.trans gs2
  clear sz21
  clear hx2 fr2 g2' g2 ga2 gs2
  refine (append_val (d' := H2) (k2.out.grew ((Grew.refl _).alloc _)) (builtM [(98 : UInt8), 99, 100] _ rfl 3 rfl (by decide) hs2) rfl E4.out).mono ?_
  try clear hs1
  try clear hs2
  rintro e w3 ⟨B3, m3, f3, C3, p3, q3, rfl, fr3, g3'⟩
  have g3 : Grew x2 w3 := ((Grew.refl x2).alloc _).trans g3'
  replace b10 := g3.cell b10
  replace b11 := g3.cell b11
  have sz31 : w1.heap.size < w3.heap.size := World.block_lt_of_cell? _ _ b10
  replace b20 := g3.cell b20
  replace b21 := g3.cell b21
  have sz32 : w2.heap.size < w3.heap.size := World.block_lt_of_cell? _ _ b20
  go_wp2_with fail
  obtain ⟨x3, hx3⟩ : ∃ x, x = w3.alloc (.cells #[.slice B3 m3 f3, .slice C3 p3 q3] 25) := ⟨_, rfl⟩
  have ga3 : Grew w3 x3 := by rw [hx3]; exact (Grew.refl _).alloc _
  have gs3 : Grew x2 x3 := g3.trans ga3
  have k3 : Hid (Disk x3 (.agg #[.slice B3 m3 f3, .slice C3 p3 q3]) H2) := fr3.now.grew ga3
  replace b10 := ga3.cell b10
  replace b11 := ga3.cell b11
  replace k1 := Lib.hid (k1.out.grew gs3)
  replace b20 := ga3.cell b20
  replace b21 := ga3.cell b21
  replace k2 := Lib.hid (k2.out.grew gs3)
  have b30 : x3.cell? ⟨w3.heap.size, 0, none⟩ = some (.slice B3 m3 f3) := by rw [hx3]; simp
  have b31 : x3.cell? ⟨w3.heap.size, 1, none⟩ = some (.slice C3 p3 q3) := by rw [hx3]; simp
  rw [← hx3]
  have hs3 : w3.heap.size + 1 = x3.heap.size := by rw [hx3]; simp
  replace gg := gg.trans gs3
  clear sz31
  clear sz32
  clear hx3 fr3 g3' g3 ga3 gs3
  refine (recs_int k3.out E5.out E6.out).mono ?_
  rintro e w4 ⟨L1, l1, t1, rfl, hL1, g4⟩
  replace b10 := g4.cell b10
  replace b11 := g4.cell b11
  replace k1 := Lib.hid (k1.out.grew g4)
  replace b20 := g4.cell b20
  replace b21 := g4.cell b21
  replace k2 := Lib.hid (k2.out.grew g4)
  replace b30 := g4.cell b30
  replace b31 := g4.cell b31
  replace k3 := Lib.hid (k3.out.grew g4)
  replace gg := gg.trans g4
  obtain rfl : l1 = 2 := hL1.1.symm
  go_wp2_with fail
  refine (recs_int k1.out E7.out E8.out).mono ?_
  rintro e w5 ⟨L2, l2, t2, rfl, hL2, g5⟩
  replace b10 := g5.cell b10
  replace b11 := g5.cell b11
  replace k1 := Lib.hid (k1.out.grew g5)
  replace b20 := g5.cell b20
  replace b21 := g5.cell b21
  replace k2 := Lib.hid (k2.out.grew g5)
  replace b30 := g5.cell b30
  replace b31 := g5.cell b31
  replace k3 := Lib.hid (k3.out.grew g5)
  replace gg := gg.trans g5
  obtain rfl : l2 = 0 := hL2.1.symm
  have HL1 := Lib.hid (hL1.grew g5)
  clear hL1 hL2 g4 g5
  go_wp2_with fail
  refine (new_val (d := newD 13) rfl E2.out).mono ?_
  try clear hs1
  try clear hs2
  try clear hs3
  rintro e w6 ⟨B6, m6, f6, C6, p6, q6, rfl, fr6, g6'⟩
  have g6 : Grew w5 w6 := (Grew.refl _).trans g6'
  replace b10 := g6.cell b10
  replace b11 := g6.cell b11
  have sz61 : w1.heap.size < w6.heap.size := World.block_lt_of_cell? _ _ b10
  replace b20 := g6.cell b20
  replace b21 := g6.cell b21
  have sz62 : w2.heap.size < w6.heap.size := World.block_lt_of_cell? _ _ b20
  replace b30 := g6.cell b30
  replace b31 := g6.cell b31
  have sz63 : w3.heap.size < w6.heap.size := World.block_lt_of_cell? _ _ b30
  have kc6 := Joins.run_convert_bytes_const_at (P := Try.prog) (w6.alloc (.cells #[.slice B6 m6 f6, .slice C6 p6 q6] 25)) 22 5 #[.int .u8 97] 1 1 (w6.heap.size + 1) (by simp) Try.underlying22 Try.underlying5
  go_wp2_with fail
  obtain ⟨x6, hx6⟩ : ∃ x, x = w6.alloc (.cells #[.slice B6 m6 f6, .slice C6 p6 q6] 25) := ⟨_, rfl⟩
  have ga6 : Grew w6 x6 := by rw [hx6]; exact (Grew.refl _).alloc _
  have gs6 : Grew w5 x6 := g6.trans ga6
  have k6 : Hid (Disk x6 (.agg #[.slice B6 m6 f6, .slice C6 p6 q6]) (newD 13)) := fr6.now.grew ga6
  replace b10 := ga6.cell b10
  replace b11 := ga6.cell b11
  replace k1 := Lib.hid (k1.out.grew gs6)
  replace b20 := ga6.cell b20
  replace b21 := ga6.cell b21
  replace k2 := Lib.hid (k2.out.grew gs6)
  replace b30 := ga6.cell b30
  replace b31 := ga6.cell b31
  replace k3 := Lib.hid (k3.out.grew gs6)
  have b60 : x6.cell? ⟨w6.heap.size, 0, none⟩ = some (.slice B6 m6 f6) := by rw [hx6]; simp
  have b61 : x6.cell? ⟨w6.heap.size, 1, none⟩ = some (.slice C6 p6 q6) := by rw [hx6]; simp
  rw [← hx6]
  have hs6 : w6.heap.size + 1 = x6.heap.size := by rw [hx6]; simp
  clear kc6
  replace gg := gg.trans gs6
  clear sz61
  clear sz62
  clear sz63
  clear hx6 fr6 g6' g6 ga6
  replace HL1 := Lib.hid (HL1.out.grew gs6)
  refine (append_val (k6.out.grew ((Grew.refl _).alloc _)) (builtM [(97 : UInt8)] _ rfl 1 rfl (by decide) hs6) rfl E9.out).mono ?_
  try clear hs1
  try clear hs2
  try clear hs3
  try clear hs6
  rintro e w7 ⟨B7, m7, f7, C7, p7, q7, rfl, fr7, g7'⟩
  have g7 : Grew x6 w7 := ((Grew.refl x6).alloc _).trans g7'
  replace b10 := g7.cell b10
  replace b11 := g7.cell b11
  have sz71 : w1.heap.size < w7.heap.size := World.block_lt_of_cell? _ _ b10
  replace b20 := g7.cell b20
  replace b21 := g7.cell b21
  have sz72 : w2.heap.size < w7.heap.size := World.block_lt_of_cell? _ _ b20
  replace b30 := g7.cell b30
  replace b31 := g7.cell b31
  have sz73 : w3.heap.size < w7.heap.size := World.block_lt_of_cell? _ _ b30
  replace b60 := g7.cell b60
  replace b61 := g7.cell b61
  have sz76 : w6.heap.size < w7.heap.size := World.block_lt_of_cell? _ _ b60
  go_wp2_with fail
  obtain ⟨x7, hx7⟩ : ∃ x, x = w7.alloc (.cells #[.slice B7 m7 f7, .slice C7 p7 q7] 25) := ⟨_, rfl⟩
  have ga7 : Grew w7 x7 := by rw [hx7]; exact (Grew.refl _).alloc _
  have gs7 : Grew x6 x7 := g7.trans ga7
  have k7 : Hid (Disk x7 (.agg #[.slice B7 m7 f7, .slice C7 p7 q7]) _) := fr7.now.grew ga7
  replace b10 := ga7.cell b10
  replace b11 := ga7.cell b11
  replace k1 := Lib.hid (k1.out.grew gs7)
  replace b20 := ga7.cell b20
  replace b21 := ga7.cell b21
  replace k2 := Lib.hid (k2.out.grew gs7)
  replace b30 := ga7.cell b30
  replace b31 := ga7.cell b31
  replace k3 := Lib.hid (k3.out.grew gs7)
  replace b60 := ga7.cell b60
  replace b61 := ga7.cell b61
  replace k6 := Lib.hid (k6.out.grew gs7)
  have b70 : x7.cell? ⟨w7.heap.size, 0, none⟩ = some (.slice B7 m7 f7) := by rw [hx7]; simp
  have b71 : x7.cell? ⟨w7.heap.size, 1, none⟩ = some (.slice C7 p7 q7) := by rw [hx7]; simp
  rw [← hx7]
  have hs7 : w7.heap.size + 1 = x7.heap.size := by rw [hx7]; simp
  replace gg := gg.trans gs7
  clear sz71
  clear sz72
  clear sz73
  clear sz76
  clear hx7 fr7 g7' g7 ga7
  replace HL1 := Lib.hid (HL1.out.grew gs7)
  refine (append_val k1.out Bytes.none rfl E10.out).mono ?_
  rintro e w8 ⟨B8, m8, f8, C8, p8, q8, rfl, fr8, g8⟩
  replace b30 := g8.cell b30
  replace b31 := g8.cell b31
  replace k3 := Lib.hid (k3.out.grew g8)
  replace HL1 := Lib.hid (HL1.out.grew g8)
  replace gg := gg.trans g8
  have sz83 : w3.heap.size < w8.heap.size := World.block_lt_of_cell? _ _ b30
  obtain ⟨hm3, v0, v1, v2, v18, v30, vp⟩ := E11.out
  obtain rfl : m3 = 100 := by rw [← k3.out.parts.1.1]; exact hm3
  obtain rfl : p3 = 0 := by rw [← k3.out.parts.2.1]; exact vp
  obtain ⟨bb, ob, rfl, hcb⟩ := k3.out.parts.1.at_ (by omega)
  have c0 := hcb 0 _ v0
  have c1 := hcb 1 _ v1
  have c2 := hcb 2 _ v2
  have c18 := hcb 18 _ v18
  have c30 := hcb 30 _ v30
  obtain ⟨bl, ol, e, hcl⟩ := HL1.out.2.2.2.2 (by omega)
  subst e
  obtain ⟨Z1, z1, y1, d0, hz1⟩ := hcl 0 [97] rfl
  obtain ⟨Z2, z2, y2, d1, hz2⟩ := hcl 1 [98, 99, 100] rfl
  have szb : bb < w8.heap.size := World.block_lt_of_cell? _ _ c0
  have szl : bl < w8.heap.size := World.block_lt_of_cell? _ _ d0
  have ga8 : Grew w8 (w8.alloc (.cells #[.slice B8 m8 f8, .slice C8 p8 q8] 25)) := (Grew.refl _).alloc _
  have cv1 := conv_bytes (hz1.grew ga8)
  have cv2 := conv_bytes (hz2.grew ga8)
  simp only [Nat.add_zero] at c0 d0
  clear hcb hcl hz1 hz2 v0 v1 v2 v18 v30 vp hm3 b10 b11 b20 b21 b60 b61 b70 b71 fr8
  go_wp2_with fail
  go_ret
  exact ⟨rfl, gg.trans ga8⟩
end Go.Proofs.Ytneipacdpojjkaa
