/-
  The fixed examples at the head of each law of the disk layer.
-/
import Derived.Test.YtneipacdpojjkaaRefA
namespace Go.Proofs.Ytneipacdpojjkaa
open Go.RowKit Go.Proofs WageMem WageDisk

theorem bytes_eq {A B : Option Addr} {n m c e : Nat} {xs ys : List UInt8} {w : World} (ha : Bytes w A n c xs) (hb : Bytes w B m e ys) (h : xs = ys) :
    Calls Try.prog 25 #[.slice A n c, .slice B m e] w fun r w' => r = .returned (.bool true) ∧ ∃ q, w' = w.drewN q := by
  have := bytes_any A B n m c e xs ys w ha hb
  rw [decide_eq_true h] at this
  exact this
/-- A slice of bytes that was just built. -/
theorem built {w : World} {t : TypeId} (bs : List UInt8) (cs : Array Value) (h : cs = (bs.map bv).toArray) (n : Nat) (hn : bs.length = n) (hm : n ≤ 1000) : Bytes (w.alloc (.cells cs t)) (some ⟨w.heap.size, 0, none⟩) n n bs := by
  subst h
  refine ⟨hn, Nat.le_refl _, by unfold maxLen; omega, by rw [List.length_map, hn]; omega, fun _ => ⟨_, _, rfl, fun j u hu => ?_⟩, fun h => by cases h⟩
  rw [cell_of_row _ _ _ _ t (0, 0) (heap_alloc_new w _)]
  simpa using hu
theorem builtI {w : World} {t : TypeId} (zs : List Int) (cs : Array Value) (h : cs = (zs.map iv).toArray) (n : Nat) (hn : zs.length = n) (hm : n ≤ 1000) : Ints (w.alloc (.cells cs t)) (some ⟨w.heap.size, 0, none⟩) n n zs := by
  subst h
  refine ⟨hn, Nat.le_refl _, by unfold maxLen; omega, by rw [List.length_map, hn]; omega, fun _ => ⟨_, _, rfl, fun j u hu => ?_⟩, fun h => by cases h⟩
  rw [cell_of_row _ _ _ _ t (0, 0) (heap_alloc_new w _)]
  simpa using hu
theorem write_val {v : Value} {d d' : Ds} {off e : Int} {A3 : Option Addr} {n3 c3 : Nat} {data : List UInt8} {w : World} (h : Disk w v d) (hD : Bytes w A3 n3 c3 data) (o0 : -9223372036854775808 ≤ off) (o1 : off ≤ 9223372036854775807) (hd : writeD d off data = d') (he : writeE d off data = e) :
    Calls Try.prog 21 #[v, .int .i64 off, .slice A3 n3 c3] w (RetDiskE d' e w) := by
  subst hd he; exact write_any v d off A3 n3 c3 data w h hD o0 o1
theorem read_val {v : Value} {d : Ds} {off count e : Int} {bs : List UInt8} {w : World} (h : Disk w v d) (o0 : -9223372036854775808 ≤ off) (c0 : -9223372036854775808 ≤ count) (o1 : off ≤ 9223372036854775807) (c1 : count ≤ 9223372036854775807) (hb : readB d off count = bs) (he : readE d off count = e) :
    Calls Try.prog 23 #[v, .int .i64 off, .int .i64 count] w (RetBytesE bs e w) := by
  subst hb he; exact read_any v d off count w h o0 c0 o1 c1
theorem new_val {size e : Int} {d : Ds} {w : World} (hd : newD size = d) (he : newE size = e) : Calls Try.prog 17 #[.int .i64 size] w (RetDiskE d e w) := by
  subst hd he; exact new_any size w

theorem blk_two {w : World} {R : Nat} {u u' : Value} {t : TypeId} (h : w.heap[R]? = some (.cells #[u, u'] t (0, 0))) (x y : Value) : ((w.setCell ⟨R, 0, none⟩ x).setCell ⟨R, 1, none⟩ y).heap[R]? = some (.cells #[x, y] t (0, 0)) := by
  have h1 := heap_setCell_same w R 0 _ t x h
  have h2 := heap_setCell_same _ R 1 _ t y h1
  simpa using h2
theorem Disk.parts {w : World} {A : Option Addr} {n c : Nat} {A' : Option Addr} {n' c' : Nat} {d : Ds} (h : Disk w (.agg #[.slice A n c, .slice A' n' c']) d) : Bytes w A n c d.st ∧ Writes w A' n' c' d.pe := by
  obtain ⟨B, m, e, B', m', e', hv, h1, h2⟩ := h.form
  simp only [Value.agg.injEq, Array.mk.injEq, List.cons.injEq, Value.slice.injEq, and_true] at hv
  obtain ⟨⟨rfl, rfl, rfl⟩, rfl, rfl, rfl⟩ := hv
  exact ⟨h1, h2⟩
theorem bytes_beside {A B : Option Addr} {n m c e : Nat} {xs ys : List UInt8} {w : World} (ha : Bytes w A n c xs) (hb : Bytes w B m e ys) (h : xs = ys) {p q : Addr} {u v : Value} (h1 : w.cell? p = some u) (h2 : w.cell? q = some v) :
    Calls Try.prog 25 #[.slice A n c, .slice B m e] w fun r w' => r = .returned (.bool true) ∧ w'.cell? p = some u ∧ w'.cell? q = some v ∧ Grew w w' :=
  (bytes_eq ha hb h).mono fun _ _ ⟨e, q, hq⟩ => by
    subst hq
    exact ⟨e, h1, h2, (Grew.refl w).drewN q⟩
theorem bytes_ok {A B : Option Addr} {n m c e : Nat} {xs ys : List UInt8} {w : World} (ha : Bytes w A n c xs) (hb : Bytes w B m e ys) (h : xs = ys) :
    Calls Try.prog 25 #[.slice A n c, .slice B m e] w fun r w' => r = .returned (.bool true) ∧ Grew w w' :=
  (bytes_eq ha hb h).mono fun _ _ ⟨e, q, hq⟩ => by
    subst hq
    exact ⟨e, (Grew.refl w).drewN q⟩
theorem crash_val {v : Value} {d d' : Ds} {Ak : Option Addr} {nk ck : Nat} {kept : List Int} {w : World} (h : Disk w v d) (hK : Ints w Ak nk ck kept) (hd : crashD d kept = d') : Calls Try.prog 28 #[v, .slice Ak nk ck] w (RetDisk d' w) := by
  subst hd; exact crash_any v d Ak nk ck kept w h hK
theorem sync_val {v : Value} {d d' : Ds} {w : World} (h : Disk w v d) (hd : syncD d = d') : Calls Try.prog 26 #[v] w (RetDisk d' w) := by
  subst hd; exact sync_any v d w h
def D0 : Ds := ⟨[0, 0, 0, 0, 0, 0], []⟩
def D1 : Ds := ⟨[0, 0, 0, 0, 0, 0], [⟨1, [1, 2, 3]⟩]⟩
def D2 : Ds := ⟨[0, 0, 0, 0, 0, 0], [⟨1, [1, 2, 3]⟩, ⟨2, [9]⟩]⟩

set_option maxRecDepth 100000 in
set_option maxHeartbeats 16000000 in
theorem head_true (w : World) : Calls Try.prog 16 #[] w fun e w' => e = .returned (.bool true) ∧ Grew w w' := by
  have hf0 : ∀ (A : Option Addr) (n c : Nat) (A' : Option Addr) (n' c' : Nat) (w : World), (Instr.field 25 (.agg #[.slice A n c, .slice A' n' c']) 0).run Try.prog w = .ok (.slice A n c) w := fun _ _ _ _ _ _ _ => by kernel_rfl
  have hf1 : ∀ (A : Option Addr) (n c : Nat) (A' : Option Addr) (n' c' : Nat) (w : World), (Instr.field 25 (.agg #[.slice A n c, .slice A' n' c']) 1).run Try.prog w = .ok (.slice A' n' c') w := fun _ _ _ _ _ _ _ => by kernel_rfl
  go_enter Try.func16, Try.ntmps16
  go_wp2_with fail
  refine (new_val (d := D0) (e := 0) rfl rfl).mono ?_
  rintro e w1 ⟨A1, n1, c1, A1', n1', c1', rfl, f1, g1⟩
  go_wp2_with fail
  have ga : Grew w1 (w1.alloc (.cells #[.slice A1 n1 c1, .slice A1' n1' c1'] 25)) := (Grew.refl _).alloc _
  have gb := ga.alloc (.cells #[.int .u8 1, .int .u8 2, .int .u8 3] 5)
  have bt := built (w := w1.alloc (.cells #[.slice A1 n1 c1, .slice A1' n1' c1'] 25)) (t := 5) [1, 2, 3] #[.int .u8 1, .int .u8 2, .int .u8 3] rfl 3 rfl (by decide)
  rw [World.size_alloc] at bt
  refine (write_val (d := D0) (d' := D1) (e := 0) (f1.now.grew gb) bt (by decide) (by decide) rfl rfl).mono ?_
  rintro e w2 ⟨A2, n2, c2, A2', n2', c2', rfl, f2, g2⟩
  have hb2 : w2.heap[w1.heap.size]? = some (.cells #[.slice A1 n1 c1, .slice A1' n1' c1'] 25 (0, 0)) := g2.block (blk_new1 _ _ _ _)
  have r0 := blk_cell hb2 0
  have r1 := blk_cell hb2 1
  have z0 := blk_frozen hb2 0
  have z1 := blk_frozen hb2 1
  have gg2 : Grew w1 w2 := gb.trans g2
  have f2' : Fresh (w1.heap.size + 1) w2 fun W => Disk W (.agg #[.slice A2 n2 c2, .slice A2' n2' c2']) D1 := f2.mono (by simp)
  clear f1 ga gb bt g2 f2
  go_wp2_with fail
  obtain ⟨w3, hw3⟩ : ∃ w3, w3 = (w2.setCell ⟨w1.heap.size, 0, none⟩ (.slice A2 n2 c2)).setCell ⟨w1.heap.size, 1, none⟩ (.slice A2' n2' c2') := ⟨_, rfl⟩
  have g3 : Grew w1 w3 := by rw [hw3]; exact (gg2.set (by simp) _).set (by simp) _
  have hb3 : w3.heap[w1.heap.size]? = some (.cells #[.slice A2 n2 c2, .slice A2' n2' c2'] 25 (0, 0)) := by rw [hw3]; exact blk_two hb2 _ _
  have hs3 : w3.heap.size = w2.heap.size := by rw [hw3]; simp [World.setCell]
  have f3 : Fresh (w1.heap.size + 1) w3 fun W => Disk W (.agg #[.slice A2 n2 c2, .slice A2' n2' c2']) D1 := by rw [hw3]; exact (f2'.set (by simp) _).set (by simp) _
  rw [← hw3]
  clear hw3 gg2 hb2 f2' r0 r1 z0 z1
  have bt := built (w := w3) (t := 5) [9] #[.int .u8 9] rfl 1 rfl (by decide)
  rw [hs3] at bt
  have gb : Grew w3 (w3.alloc (.cells #[.int .u8 9] 5)) := (Grew.refl _).alloc _
  clear hs3
  refine (write_val (d := D1) (d' := D2) (e := 0) (f3.now.grew gb) bt (by decide) (by decide) rfl rfl).mono ?_
  rintro e w4 ⟨A4, n4, c4, A4', n4', c4', rfl, f4, g4⟩
  have hb4 : w4.heap[w1.heap.size]? = some (.cells #[.slice A2 n2 c2, .slice A2' n2' c2'] 25 (0, 0)) := g4.block (gb.block hb3)
  have r0 := blk_cell hb4 0
  have r1 := blk_cell hb4 1
  have z0 := blk_frozen hb4 0
  have z1 := blk_frozen hb4 1
  have gg4 : Grew w1 w4 := g3.trans (gb.trans g4)
  have sz3 : w1.heap.size < w3.heap.size := World.block_lt_of_cell? _ _ (blk_cell hb3 0)
  have f4' : Fresh (w1.heap.size + 1) w4 fun W => Disk W (.agg #[.slice A4 n4 c4, .slice A4' n4' c4']) D2 := f4.mono (by simp; omega)
  clear f3 gb bt g4 f4 hb3 g3 sz3
  go_wp2_with fail
  obtain ⟨w5, hw5⟩ : ∃ w5, w5 = (w4.setCell ⟨w1.heap.size, 0, none⟩ (.slice A4 n4 c4)).setCell ⟨w1.heap.size, 1, none⟩ (.slice A4' n4' c4') := ⟨_, rfl⟩
  have g5 : Grew w1 w5 := by rw [hw5]; exact (gg4.set (by simp) _).set (by simp) _
  have hb5 : w5.heap[w1.heap.size]? = some (.cells #[.slice A4 n4 c4, .slice A4' n4' c4'] 25 (0, 0)) := by rw [hw5]; exact blk_two hb4 _ _
  have f5 : Disk w5 (.agg #[.slice A4 n4 c4, .slice A4' n4' c4']) D2 := by rw [hw5]; exact ((f4'.set (by simp) _).set (by simp) _).now
  rw [← hw5]
  clear hw5 gg4 hb4 f4' r0 r1 z0 z1
  refine (read_val (d := D2) (bs := [0, 1, 9, 3, 0, 0]) (e := 0) f5 (by decide) (by decide) (by decide) (by decide) (by decide +kernel) (by decide +kernel)).mono ?_
  rintro e w6 ⟨A6, n6, c6, rfl, f6, g6⟩
  have hb6 := g6.block hb5
  have hd6 := f5.grew g6
  have hg6 := g5.trans g6
  have hB6 := f6.now
  clear f6 f5 hb5 g6 g5
  have r0 : w6.cell? ⟨w1.heap.size, 0, none⟩ = some (.slice A4 n4 c4) := blk_cell hb6 0
  have r1 : w6.cell? ⟨w1.heap.size, 1, none⟩ = some (.slice A4' n4' c4') := blk_cell hb6 1
  go_wp2_with fail
  have hmk : ∀ w : World, (Instr.makeSlice 22 (.int .i64 6) (.int .i64 6)).run Try.prog w = .ok (.slice (some ⟨w.heap.size, 0, none⟩) 6 6) (w.alloc (.cells #[.int .u8 0, .int .u8 0, .int .u8 0, .int .u8 0, .int .u8 0, .int .u8 0] 5)) := fun _ => by kernel_rfl
  obtain ⟨hS, hP⟩ := hd6.parts
  obtain rfl : n4' = 2 := hP.1.symm
  have hx1 : Hid (Bytes (w6.alloc (.cells #[.int .u8 0, .int .u8 0, .int .u8 0, .int .u8 0, .int .u8 0, .int .u8 0] 5)).drew A4 n4 c4 [0, 0, 0, 0, 0, 0]) := hS.grew ((Grew.refl w6).alloc _).drew
  have hx2 : Hid (Bytes (w6.alloc (.cells #[.int .u8 0, .int .u8 0, .int .u8 0, .int .u8 0, .int .u8 0, .int .u8 0] 5)).drew (some ⟨w6.heap.size, 0, none⟩) 6 6 [0, 0, 0, 0, 0, 0]) :=
    (built (w := w6) (t := 5) [0, 0, 0, 0, 0, 0] #[.int .u8 0, .int .u8 0, .int .u8 0, .int .u8 0, .int .u8 0, .int .u8 0] rfl 6 rfl (by decide)).grew (Grew.refl _).drew
  have hx3 := Lib.hid hB6
  have hd6 := Lib.hid hd6
  clear hB6 hS hP
  go_region_held3 (fun w' => w'.cell? ⟨w1.heap.size, 0, none⟩ = some (.slice A4 n4 c4) ∧ w'.cell? ⟨w1.heap.size, 1, none⟩ = some (.slice A4' 2 c4')) (go_keep)
    (first
      | (go_at_call 25; (with_reducible refine (bytes_beside hx1.out hx2.out rfl (((Grew.refl w6).alloc _).drew.cell r0) (((Grew.refl w6).alloc _).drew.cell r1)).mono ?_); rintro e w7 ⟨rfl, k0, k1, g7⟩)
      | (go_at_call 25; (refine (bytes_beside (xs := [0, 1, 9, 3, 0, 0]) (ys := [0, 1, 9, 3, 0, 0]) ((hx3.out.grew (((Grew.refl w6).alloc _).drew.trans g7)).grew ((Grew.refl w7).alloc _)) (built (w := w7) (t := 5) [0, 1, 9, 3, 0, 0] #[.int .u8 0, .int .u8 1, .int .u8 9, .int .u8 3, .int .u8 0, .int .u8 0] rfl 6 rfl (by decide)) rfl (((Grew.refl w7).alloc _).cell k0) (((Grew.refl w7).alloc _).cell k1)).mono ?_); rintro e w8 ⟨rfl, l0, l1, g8⟩))
  have hg8 : Grew w6 w8 := (((Grew.refl w6).alloc _).drew.trans g7).trans (((Grew.refl w7).alloc _).trans g8)
  have hb8 := hg8.block hb6
  have hd8 := hd6.out.grew hg8
  have hx8 := Lib.hid (hx3.out.grew hg8)
  have gg8 := hg6.trans hg8
  clear hg8 g7 g8 hx1 hx2 hx3 hb6 hd6 hg6 l0 l1 k0 k1 r0 r1 hmk
  have r0 : w8.cell? ⟨w1.heap.size, 0, none⟩ = some (.slice A4 n4 c4) := blk_cell hb8 0
  have r1 : w8.cell? ⟨w1.heap.size, 1, none⟩ = some (.slice A4' 2 c4') := blk_cell hb8 1
  have ggp := gg8
  have hxp := hx8
  have hbp := hb8
  clear gg8 hx8 hb8
  go_wp2_with fail
  have gk1 : Grew w8 (w8.alloc (.cells #[.int .i64 2, .int .i64 0] 3)) := (Grew.refl _).alloc _
  refine (crash_val (d := D2) (kept := [2, 0]) (d' := ⟨[0, 1, 2, 0, 0, 0], []⟩) (hd8.grew gk1) (builtI (w := w8) (t := 3) [2, 0] #[.int .i64 2, .int .i64 0] rfl 2 rfl (by decide)) (by kernel_rfl)).mono ?_
  rintro e x1 ⟨Ac1, nc1, cc1, Ae1, ne1, ce1, rfl, fc1, gc1⟩
  go_wp2_with fail
  refine (bytes_ok (xs := [0, 1, 2, 0, 0, 0]) (ys := [0, 1, 2, 0, 0, 0]) (fc1.now.parts.1.grew ((Grew.refl x1).alloc _)) (built (w := x1) (t := 5) [0, 1, 2, 0, 0, 0] #[.int .u8 0, .int .u8 1, .int .u8 2, .int .u8 0, .int .u8 0, .int .u8 0] rfl 6 rfl (by decide)) rfl).mono ?_
  rintro e y1 ⟨rfl, gd1⟩
  have hh1 : Grew w8 y1 := gk1.trans (gc1.trans (((Grew.refl x1).alloc _).trans gd1))
  have hd1 := hd8.grew hh1
  have gg1 := ggp.trans hh1
  have hx1 := Lib.hid (hxp.out.grew hh1)
  have hb1 := hh1.block hbp
  clear r0 r1 ggp hxp hbp fc1 gk1 gc1 gd1 hh1 hd8
  have ggp := gg1
  have hxp := hx1
  have hbp := hb1
  clear gg1 hx1 hb1
  have r0 : y1.cell? ⟨w1.heap.size, 0, none⟩ = some (.slice A4 n4 c4) := blk_cell hbp 0
  have r1 : y1.cell? ⟨w1.heap.size, 1, none⟩ = some (.slice A4' 2 c4') := blk_cell hbp 1
  go_wp2_with fail
  have gk2 : Grew y1 (y1.alloc (.cells #[.int .i64 3, .int .i64 1] 3)) := (Grew.refl _).alloc _
  refine (crash_val (d := D2) (kept := [3, 1]) (d' := ⟨[0, 1, 9, 3, 0, 0], []⟩) (hd1.grew gk2) (builtI (w := y1) (t := 3) [3, 1] #[.int .i64 3, .int .i64 1] rfl 2 rfl (by decide)) (by kernel_rfl)).mono ?_
  rintro e x2 ⟨Ac2, nc2, cc2, Ae2, ne2, ce2, rfl, fc2, gc2⟩
  go_wp2_with fail
  refine (bytes_ok (xs := [0, 1, 9, 3, 0, 0]) (ys := [0, 1, 9, 3, 0, 0]) (fc2.now.parts.1.grew ((Grew.refl x2).alloc _)) (built (w := x2) (t := 5) [0, 1, 9, 3, 0, 0] #[.int .u8 0, .int .u8 1, .int .u8 9, .int .u8 3, .int .u8 0, .int .u8 0] rfl 6 rfl (by decide)) rfl).mono ?_
  rintro e y2 ⟨rfl, gd2⟩
  have hh2 : Grew y1 y2 := gk2.trans (gc2.trans (((Grew.refl x2).alloc _).trans gd2))
  have hd2 := hd1.grew hh2
  have gg2 := ggp.trans hh2
  have hx2 := Lib.hid (hxp.out.grew hh2)
  have hb2 := hh2.block hbp
  clear r0 r1 ggp hxp hbp fc2 gk2 gc2 gd2 hh2 hd1
  have ggp := gg2
  have hxp := hx2
  have hbp := hb2
  clear gg2 hx2 hb2
  have r0 : y2.cell? ⟨w1.heap.size, 0, none⟩ = some (.slice A4 n4 c4) := blk_cell hbp 0
  have r1 : y2.cell? ⟨w1.heap.size, 1, none⟩ = some (.slice A4' 2 c4') := blk_cell hbp 1
  go_wp2_with fail
  have gk3 : Grew y2 (y2.alloc (.cells #[.int .i64 (-1), .int .i64 5] 3)) := (Grew.refl _).alloc _
  refine (crash_val (d := D2) (kept := [-1, 5]) (d' := ⟨[0, 0, 9, 0, 0, 0], []⟩) (hd2.grew gk3) (builtI (w := y2) (t := 3) [-1, 5] #[.int .i64 (-1), .int .i64 5] rfl 2 rfl (by decide)) (by kernel_rfl)).mono ?_
  rintro e x3 ⟨Ac3, nc3, cc3, Ae3, ne3, ce3, rfl, fc3, gc3⟩
  go_wp2_with fail
  refine (bytes_ok (xs := [0, 0, 9, 0, 0, 0]) (ys := [0, 0, 9, 0, 0, 0]) (fc3.now.parts.1.grew ((Grew.refl x3).alloc _)) (built (w := x3) (t := 5) [0, 0, 9, 0, 0, 0] #[.int .u8 0, .int .u8 0, .int .u8 9, .int .u8 0, .int .u8 0, .int .u8 0] rfl 6 rfl (by decide)) rfl).mono ?_
  rintro e y3 ⟨rfl, gd3⟩
  have hh3 : Grew y2 y3 := gk3.trans (gc3.trans (((Grew.refl x3).alloc _).trans gd3))
  have hd3 := hd2.grew hh3
  have gg3 := ggp.trans hh3
  have hx3 := Lib.hid (hxp.out.grew hh3)
  have hb3 := hh3.block hbp
  clear r0 r1 ggp hxp hbp fc3 gk3 gc3 gd3 hh3 hd2
  have ggp := gg3
  have hxp := hx3
  have hbp := hb3
  clear gg3 hx3 hb3
  have r0 : y3.cell? ⟨w1.heap.size, 0, none⟩ = some (.slice A4 n4 c4) := blk_cell hbp 0
  have r1 : y3.cell? ⟨w1.heap.size, 1, none⟩ = some (.slice A4' 2 c4') := blk_cell hbp 1
  go_wp2_with fail
  have gw : Grew y3 (y3.alloc (.cells #[.int .u8 1] 5)) := (Grew.refl _).alloc _
  refine (write_val (d := D2) (d' := emptyD) (e := 1) (hd3.grew gw) (built (w := y3) (t := 5) [1] #[.int .u8 1] rfl 1 rfl (by decide)) (by decide) (by decide) rfl rfl).mono ?_
  rintro e z1 ⟨Aw, nw, cw, Aw', nw', cw', rfl, fw, gx⟩
  have hh := gw.trans gx
  have hdz := hd3.grew hh
  have ggz := ggp.trans hh
  have hxz := Lib.hid (hxp.out.grew hh)
  have hbz := hh.block hbp
  clear r0 r1 ggp hxp hbp fw gw gx hh hd3
  have r0 : z1.cell? ⟨w1.heap.size, 0, none⟩ = some (.slice A4 n4 c4) := blk_cell hbz 0
  have r1 : z1.cell? ⟨w1.heap.size, 1, none⟩ = some (.slice A4' 2 c4') := blk_cell hbz 1
  have szz : w1.heap.size < z1.heap.size := World.block_lt_of_cell? _ _ r0
  go_wp2_with fail
  have ga : Grew z1 (z1.alloc (.cells #[.slice Aw nw cw, .slice Aw' nw' cw'] 25)) := (Grew.refl _).alloc _
  refine (sync_val (d := D2) (d' := ⟨[0, 1, 9, 3, 0, 0], []⟩) (hdz.grew ga) (by kernel_rfl)).mono ?_
  rintro e z2 ⟨As, ns, cs, As', ns', cs', rfl, fs, gs⟩
  have hgz := ga.trans gs
  go_wp2_with fail
  refine (bytes_ok (xs := [0, 1, 9, 3, 0, 0]) (ys := [0, 1, 9, 3, 0, 0]) fs.now.parts.1 (hxz.out.grew hgz) rfl).mono ?_
  rintro e z3 ⟨rfl, gt⟩
  have hgt := hgz.trans gt
  have hd3' := hdz.grew hgt
  have gg3 := ggz.trans hgt
  have hb3' := hgt.block hbz
  clear r0 r1 ggz hxz hbz fs ga gs hgz hgt gt hdz szz
  have r0 : z3.cell? ⟨w1.heap.size, 0, none⟩ = some (.slice A4 n4 c4) := blk_cell hb3' 0
  have r1 : z3.cell? ⟨w1.heap.size, 1, none⟩ = some (.slice A4' 2 c4') := blk_cell hb3' 1
  go_wp2_with fail
  refine (sync_val (d := D2) (d' := ⟨[0, 1, 9, 3, 0, 0], []⟩) hd3' (by kernel_rfl)).mono ?_
  rintro e z4 ⟨Au, nu, cu, Au', nu', cu', rfl, fu, gu⟩
  obtain rfl : nu' = 0 := fu.now.parts.2.1.symm
  have gg4 := g1.trans (gg3.trans gu)
  clear r0 r1 gg3 gu fu hb3'
  go_wp2_with fail
  go_ret
  exact ⟨rfl, gg4⟩
end Go.Proofs.Ytneipacdpojjkaa
