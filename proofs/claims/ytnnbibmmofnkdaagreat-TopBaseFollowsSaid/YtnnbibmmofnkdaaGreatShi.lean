/-
 shifts.Minutes, shifts.Night, shifts.Rest.
-/
import Derived.Test.YtnnbibmmofnkdaaGreatZoneF
import Derived.Laws.ResultCell
namespace Go.Proofs.YtnnbibmmofnkdaaGreat
open Go.RowKit Go.Proofs WageMem WageReg WageRec WageSpan WageTop
/-- A duty. -/
structure Du where
 a : Int
 b : Int
 s : Int
def duV (d : Du) : Value := .agg #[.int .i64 d.a, .int .i64 d.b, .int .i64 d.s]
def durOk (d : Du) : Bool := decide (0 ≤ d.a ∧ d.a < d.b ∧ d.b ≤ 52596000 ∧ d.b - d.a ≤ 1440 ∧ 0 ≤ d.s ∧ d.s ≤ 65535)
/-- What Minutes returns. -/
def RetMin (z : Zn) (d : Du) (w : World) (r : Ending) (w' : World) : Prop :=
 (durOk d = true ∧ RetSp z d.a d.b w r w') ∨ (durOk d = false ∧ r = .returned (.tuple #[.slice none 0 0, .int .i64 171]) ∧ Grew w w')
theorem RetSp.from {z : Zn} {f e : Int} {w w1 : World} {r : Ending} {w' : World} (g : Grew w w1) (h : RetSp z f e w1 r w') : RetSp z f e w r w' := by
 rcases h with ⟨h1, A, n, c, h2, h3, h4⟩ | ⟨h1, h2, h3⟩
 ·exact .inl ⟨h1, A, n, c, h2, ⟨h3.1, own_base h3.2 g.le⟩, g.trans h4⟩
 ·exact .inr ⟨h1, h2, g.trans h3⟩
theorem min14 (nm : ByteArray) (zb : Int) (C : Option Addr) (n c : Nat) (ch : List Sp) (d : Du) (w : World) (hs : Spans w C n c ch) (hz : znB ⟨zb, ch⟩ = true) :
  Calls Tryz.prog 14 #[.agg #[.string nm, .int .i64 zb, .slice C n c], duV d] w (RetMin ⟨zb, ch⟩ d w) := by
 obtain ⟨a, b, s⟩ := d
 have HS := Lib.hid hs
 have HZ := Lib.hid hz
 clear hs hz
 show Calls Tryz.prog 14 #[.agg #[.string nm, .int .i64 zb, .slice C n c], .agg #[.int .i64 a, .int .i64 b, .int .i64 s]] w _
 obtain ⟨t, ht⟩ : ∃ t, durOk ⟨a, b, s⟩ = t := ⟨_, rfl⟩
 have HT := Lib.hid ht
 have HT1 : Hid (decide (0 ≤ a ∧ a < b ∧ b ≤ 52596000 ∧ b - a ≤ 1440 ∧ 0 ≤ s ∧ s ≤ 65535) = t) := ht
 clear ht
 have gb : Grew w ((w.alloc (.cells #[.string nm, .int .i64 zb, .slice C n c] 24)).alloc (.cells #[.int .i64 a, .int .i64 b, .int .i64 s] 47)) := ((Grew.refl w).alloc _).alloc _
 go_enter Tryz.func14, Tryz.ntmps14
 go_wp2_with fail
 refine (sval38 a b s t _ HT1.out).mono ?_
 rintro r w1 ⟨rfl, g1⟩
 have G1 := gb.trans g1
 cases t with
 | false =>
  go_wp2
  go_ret2
  exact .inr ⟨HT.out, rfl, G1⟩
 | true =>
  have hd := of_decide_eq_true HT1.out
  have x0 := g1.block (show ((w.alloc (.cells #[.string nm, .int .i64 zb, .slice C n c] 24)).alloc (.cells #[.int .i64 a, .int .i64 b, .int .i64 s] 47)).heap[w.heap.size]? = some (.cells #[.string nm, .int .i64 zb, .slice C n c] 24) by exact ((Grew.refl _).alloc _).block (World.alloc_heap_new w _))
  have x1 := g1.block (show ((w.alloc (.cells #[.string nm, .int .i64 zb, .slice C n c] 24)).alloc (.cells #[.int .i64 a, .int .i64 b, .int .i64 s] 47)).heap[w.heap.size + 1]? = some (.cells #[.int .i64 a, .int .i64 b, .int .i64 s] 47) by have := World.alloc_heap_new (w.alloc (.cells #[.string nm, .int .i64 zb, .slice C n c] 24)) (.cells #[.int .i64 a, .int .i64 b, .int .i64 s] 47); rwa [World.size_alloc] at this)
  have v0 : w1.cell? ⟨w.heap.size, 0, none⟩ = some (.string nm) := by simp [World.cell?, x0]
  have v1 : w1.cell? ⟨w.heap.size, 1, none⟩ = some (.int .i64 zb) := by simp [World.cell?, x0]
  have v2 : w1.cell? ⟨w.heap.size, 2, none⟩ = some (.slice C n c) := by simp [World.cell?, x0]
  have u0 : w1.cell? ⟨w.heap.size + 1, 0, none⟩ = some (.int .i64 a) := by simp [World.cell?, x1]
  have u1 : w1.cell? ⟨w.heap.size + 1, 1, none⟩ = some (.int .i64 b) := by simp [World.cell?, x1]
  have H1 := Lib.hid (HS.out.grew G1)
  obtain ⟨h1, h2, h3, h4, h5, h6⟩ := hd
  clear x0 x1 gb g1
  go_wp2_with fail
  refine (split39 nm zb C n c ch a b w1 H1.out HZ.out h1 (by omega) h3 (by omega)).mono ?_
  intro r w2 h
  have hr := Lib.hid (RetSp.from G1 h)
  rcases h with ⟨_, A2, n2, c2, rfl, _⟩ | ⟨_, rfl, _⟩
  ·go_wp2
   go_ret2
   exact .inl ⟨HT.out, hr.out⟩
  ·go_wp2
   go_ret2
   exact .inl ⟨HT.out, hr.out⟩
theorem night72 (nm : ByteArray) (zb : Int) (C : Option Addr) (n c : Nat) (ch : List Sp) (d : Du) (p q : Int) (w : World) (hs : Spans w C n c ch) (hz : znB ⟨zb, ch⟩ = true) (hd : durOk d = true) (hp : 0 ≤ p ∧ p ≤ 1440) (hq : 0 ≤ q ∧ q ≤ 1440) :
  Calls Tryz.prog 72 #[.agg #[.string nm, .int .i64 zb, .slice C n c], duV d, .agg #[.int .i64 p, .int .i64 q]] w fun r w' => r = .returned (.tuple #[.int .i64 (winT ⟨zb, ch⟩ d.a d.b p q), .int .i64 0]) ∧ Grew w w' := by
 obtain ⟨a, b, s⟩ := d
 have HS := Lib.hid hs
 have HZ := Lib.hid hz
 have hd1 : decide (0 ≤ a ∧ a < b ∧ b ≤ 52596000 ∧ b - a ≤ 1440 ∧ 0 ≤ s ∧ s ≤ 65535) = true := hd
 have HD := Lib.hid hd1
 clear hs hz hd
 show Calls Tryz.prog 72 #[.agg #[.string nm, .int .i64 zb, .slice C n c], .agg #[.int .i64 a, .int .i64 b, .int .i64 s], .agg #[.int .i64 p, .int .i64 q]] w _
 obtain ⟨h1, h2, h3, h4, h5, h6⟩ := of_decide_eq_true hd1
 clear hd1
 have gb : Grew w (((w.alloc (.cells #[.string nm, .int .i64 zb, .slice C n c] 24)).alloc (.cells #[.int .i64 a, .int .i64 b, .int .i64 s] 47)).alloc (.cells #[.int .i64 p, .int .i64 q] 28)) := (((Grew.refl w).alloc _).alloc _).alloc _
 have x0 : (((w.alloc (.cells #[.string nm, .int .i64 zb, .slice C n c] 24)).alloc (.cells #[.int .i64 a, .int .i64 b, .int .i64 s] 47)).alloc (.cells #[.int .i64 p, .int .i64 q] 28)).heap[w.heap.size]? = some (.cells #[.string nm, .int .i64 zb, .slice C n c] 24) := (((Grew.refl _).alloc _).alloc _).block (World.alloc_heap_new w _)
 have x1 : (((w.alloc (.cells #[.string nm, .int .i64 zb, .slice C n c] 24)).alloc (.cells #[.int .i64 a, .int .i64 b, .int .i64 s] 47)).alloc (.cells #[.int .i64 p, .int .i64 q] 28)).heap[w.heap.size + 1]? = some (.cells #[.int .i64 a, .int .i64 b, .int .i64 s] 47) := by
  have := ((Grew.refl _).alloc (.cells #[.int .i64 p, .int .i64 q] 28)).block (World.alloc_heap_new (w.alloc (.cells #[.string nm, .int .i64 zb, .slice C n c] 24)) (.cells #[.int .i64 a, .int .i64 b, .int .i64 s] 47)); rwa [World.size_alloc] at this
 have x2 : (((w.alloc (.cells #[.string nm, .int .i64 zb, .slice C n c] 24)).alloc (.cells #[.int .i64 a, .int .i64 b, .int .i64 s] 47)).alloc (.cells #[.int .i64 p, .int .i64 q] 28)).heap[w.heap.size + 1 + 1]? = some (.cells #[.int .i64 p, .int .i64 q] 28) := by
  have := World.alloc_heap_new ((w.alloc (.cells #[.string nm, .int .i64 zb, .slice C n c] 24)).alloc (.cells #[.int .i64 a, .int .i64 b, .int .i64 s] 47)) (.cells #[.int .i64 p, .int .i64 q] 28); rwa [World.size_alloc, World.size_alloc] at this
 have X0 := Lib.hid x0
 have X1 := Lib.hid x1
 have X2 := Lib.hid x2
 clear x0 x1 x2
 go_enter Tryz.func72, Tryz.ntmps72
 go_wp2_with fail
 refine (sval38 a b s true _ HD.out).mono ?_
 rintro r w1 ⟨rfl, g1⟩
 have G1 := gb.trans g1
 have x0 := g1.block X0.out
 have x1 := g1.block X1.out
 have x2 := g1.block X2.out
 have v0 : w1.cell? ⟨w.heap.size, 0, none⟩ = some (.string nm) := by simp [World.cell?, x0]
 have v1 : w1.cell? ⟨w.heap.size, 1, none⟩ = some (.int .i64 zb) := by simp [World.cell?, x0]
 have v2 : w1.cell? ⟨w.heap.size, 2, none⟩ = some (.slice C n c) := by simp [World.cell?, x0]
 have u0 : w1.cell? ⟨w.heap.size + 1, 0, none⟩ = some (.int .i64 a) := by simp [World.cell?, x1]
 have u1 : w1.cell? ⟨w.heap.size + 1, 1, none⟩ = some (.int .i64 b) := by simp [World.cell?, x1]
 have y0 : w1.cell? ⟨w.heap.size + 1 + 1, 0, none⟩ = some (.int .i64 p) := by simp [World.cell?, x2]
 have y1 : w1.cell? ⟨w.heap.size + 1 + 1, 1, none⟩ = some (.int .i64 q) := by simp [World.cell?, x2]
 have H1 := Lib.hid (HS.out.grew G1)
 clear x0 x1 x2 gb g1
 go_wp2_with fail
 refine (window114 nm zb C n c ch a b p q w1 H1.out HZ.out h1 (by omega) h3 (by omega) hp hq).mono ?_
 rintro r w2 ⟨rfl, g2⟩
 go_wp2
 go_ret2
 exact ⟨rfl, G1.trans g2⟩
theorem begin70 (a b : Int) (w : World) : Calls Tryz.prog 70 #[.agg #[.int .i64 a, .int .i64 b]] w fun r w' => r = .returned (.int .i64 a) ∧ Grew w w' := by
 go_enter Tryz.func70, Tryz.ntmps70
 go_wp2
 go_ret
 exact ⟨rfl, (Grew.refl w).alloc _⟩
theorem end71 (a b : Int) (w : World) : Calls Tryz.prog 71 #[.agg #[.int .i64 a, .int .i64 b]] w fun r w' => r = .returned (.int .i64 b) ∧ Grew w w' := by
 go_enter Tryz.func71, Tryz.ntmps71
 go_wp2
 go_ret
 exact ⟨rfl, (Grew.refl w).alloc _⟩
theorem cells4 {W : World} {k : Nat} {z0 z1 z2 z3 : Value} (h0 : W.cell? ⟨k, 0, none⟩ = some z0) (h1 : W.cell? ⟨k, 1, none⟩ = some z1) (h2 : W.cell? ⟨k + 1, 0, none⟩ = some z2) (h3 : W.cell? ⟨k + 1, 1, none⟩ = some z3) (v0 v1 v2 v3 : Value) :
  ((((W.setCell ⟨k, 0, none⟩ v0).setCell ⟨k, 1, none⟩ v1).setCell ⟨k + 1, 0, none⟩ v2).setCell ⟨k + 1, 1, none⟩ v3).cell? ⟨k, 0, none⟩ = some v0 ∧
  ((((W.setCell ⟨k, 0, none⟩ v0).setCell ⟨k, 1, none⟩ v1).setCell ⟨k + 1, 0, none⟩ v2).setCell ⟨k + 1, 1, none⟩ v3).cell? ⟨k, 1, none⟩ = some v1 ∧
  ((((W.setCell ⟨k, 0, none⟩ v0).setCell ⟨k, 1, none⟩ v1).setCell ⟨k + 1, 0, none⟩ v2).setCell ⟨k + 1, 1, none⟩ v3).cell? ⟨k + 1, 0, none⟩ = some v2 ∧
  ((((W.setCell ⟨k, 0, none⟩ v0).setCell ⟨k, 1, none⟩ v1).setCell ⟨k + 1, 0, none⟩ v2).setCell ⟨k + 1, 1, none⟩ v3).cell? ⟨k + 1, 1, none⟩ = some v3 := by
 have e1 : (W.setCell ⟨k, 0, none⟩ v0).cell? ⟨k, 1, none⟩ = some z1 := (World.cell?_setCell_other _ _ _ _ (by simp)).trans h1
 have e2 : ((W.setCell ⟨k, 0, none⟩ v0).setCell ⟨k, 1, none⟩ v1).cell? ⟨k + 1, 0, none⟩ = some z2 := (World.cell?_setCell_other _ _ _ _ (by simp)).trans ((World.cell?_setCell_other _ _ _ _ (by simp)).trans h2)
 have e3 : (((W.setCell ⟨k, 0, none⟩ v0).setCell ⟨k, 1, none⟩ v1).setCell ⟨k + 1, 0, none⟩ v2).cell? ⟨k + 1, 1, none⟩ = some z3 := (World.cell?_setCell_other _ _ _ _ (by simp)).trans ((World.cell?_setCell_other _ _ _ _ (by simp)).trans ((World.cell?_setCell_other _ _ _ _ (by simp)).trans h3))
 have f0 : (W.setCell ⟨k, 0, none⟩ v0).cell? ⟨k, 0, none⟩ = some v0 := World.cell?_setCell_same' _ _ _ (by rw [h0]; rfl)
 have f1 : ((W.setCell ⟨k, 0, none⟩ v0).setCell ⟨k, 1, none⟩ v1).cell? ⟨k, 1, none⟩ = some v1 := World.cell?_setCell_same' _ _ _ (by rw [e1]; rfl)
 have f2 : (((W.setCell ⟨k, 0, none⟩ v0).setCell ⟨k, 1, none⟩ v1).setCell ⟨k + 1, 0, none⟩ v2).cell? ⟨k + 1, 0, none⟩ = some v2 := World.cell?_setCell_same' _ _ _ (by rw [e2]; rfl)
 refine ⟨?_, ?_, ?_, World.cell?_setCell_same' _ _ _ (by rw [e3]; rfl)⟩
 ·exact (World.cell?_setCell_other _ _ _ _ (by simp)).trans ((World.cell?_setCell_other _ _ _ _ (by simp)).trans ((World.cell?_setCell_other _ _ _ _ (by simp)).trans f0))
 ·exact (World.cell?_setCell_other _ _ _ _ (by simp)).trans ((World.cell?_setCell_other _ _ _ _ (by simp)).trans f1)
 ·exact (World.cell?_setCell_other _ _ _ _ (by simp)).trans f2
theorem ordered69 (a1 b1 a2 b2 : Int) (w : World) : Calls Tryz.prog 69 #[.agg #[.int .i64 a1, .int .i64 b1], .agg #[.int .i64 a2, .int .i64 b2], .func (.func 70) #[] #[]] w fun r w' =>
  r = .returned (if a2 < a1 then .tuple #[.agg #[.int .i64 a2, .int .i64 b2], .agg #[.int .i64 a1, .int .i64 b1]] else .tuple #[.agg #[.int .i64 a1, .int .i64 b1], .agg #[.int .i64 a2, .int .i64 b2]]) ∧ Grew w w' := by
 obtain ⟨w0, hw0⟩ : ∃ y, y = (((w.alloc (.cells #[.int .i64 a1, .int .i64 b1] 154)).alloc (.cells #[.int .i64 a2, .int .i64 b2] 154)).alloc (.cells #[.int .i64 0, .int .i64 0] 154)).alloc (.cells #[.int .i64 0, .int .i64 0] 154) := ⟨_, rfl⟩
 have x0 : w0.heap[w.heap.size]? = some (.cells #[.int .i64 a1, .int .i64 b1] 154) := by rw [hw0]; exact ((((Grew.refl _).alloc _).alloc _).alloc _).block (World.alloc_heap_new w _)
 have x1 : w0.heap[w.heap.size + 1]? = some (.cells #[.int .i64 a2, .int .i64 b2] 154) := by
  rw [hw0]; have := (((Grew.refl _).alloc (.cells #[.int .i64 0, .int .i64 0] 154)).alloc (.cells #[.int .i64 0, .int .i64 0] 154)).block (World.alloc_heap_new (w.alloc (.cells #[.int .i64 a1, .int .i64 b1] 154)) (.cells #[.int .i64 a2, .int .i64 b2] 154)); rwa [World.size_alloc] at this
 have x2 : w0.heap[w.heap.size + 1 + 1]? = some (.cells #[.int .i64 0, .int .i64 0] 154) := by
  rw [hw0]; have := ((Grew.refl _).alloc (.cells #[.int .i64 0, .int .i64 0] 154)).block (World.alloc_heap_new ((w.alloc (.cells #[.int .i64 a1, .int .i64 b1] 154)).alloc (.cells #[.int .i64 a2, .int .i64 b2] 154)) (.cells #[.int .i64 0, .int .i64 0] 154)); rwa [World.size_alloc, World.size_alloc] at this
 have x3 : w0.heap[w.heap.size + 1 + 1 + 1]? = some (.cells #[.int .i64 0, .int .i64 0] 154) := by
  rw [hw0]; have := World.alloc_heap_new (((w.alloc (.cells #[.int .i64 a1, .int .i64 b1] 154)).alloc (.cells #[.int .i64 a2, .int .i64 b2] 154)).alloc (.cells #[.int .i64 0, .int .i64 0] 154)) (.cells #[.int .i64 0, .int .i64 0] 154); rwa [World.size_alloc, World.size_alloc, World.size_alloc] at this
 have g0 : Grew w w0 := by rw [hw0]; exact ((((Grew.refl w).alloc _).alloc _).alloc _).alloc _
 go_enter Tryz.func69, Tryz.ntmps69
 go_wp2_with fail
 rw [← hw0]
 clear hw0
 have X0 := Lib.hid x0
 have X1 := Lib.hid x1
 have X2 := Lib.hid x2
 have X3 := Lib.hid x3
 have c0 : w0.drew.cell? ⟨w.heap.size, 0, none⟩ = some (.int .i64 a1) := (Grew.refl w0).drew.cell (by simp [World.cell?, x0])
 have c1 : w0.drew.cell? ⟨w.heap.size, 1, none⟩ = some (.int .i64 b1) := (Grew.refl w0).drew.cell (by simp [World.cell?, x0])
 have d0 : w0.drew.cell? ⟨w.heap.size + 1, 0, none⟩ = some (.int .i64 a2) := (Grew.refl w0).drew.cell (by simp [World.cell?, x1])
 have d1 : w0.drew.cell? ⟨w.heap.size + 1, 1, none⟩ = some (.int .i64 b2) := (Grew.refl w0).drew.cell (by simp [World.cell?, x1])
 clear x0 x1 x2 x3
 have hC : ∀ w', Grew w0.drew w' → w'.cell? ⟨w.heap.size, 0, none⟩ = some (.int .i64 a1) ∧ w'.cell? ⟨w.heap.size, 1, none⟩ = some (.int .i64 b1) ∧ w'.cell? ⟨w.heap.size + 1, 0, none⟩ = some (.int .i64 a2) ∧ w'.cell? ⟨w.heap.size + 1, 1, none⟩ = some (.int .i64 b2) := fun w' g' => ⟨g'.cell c0, g'.cell c1, g'.cell d0, g'.cell d1⟩
 refine wp_region_seq (by kernel_rfl) Grew.refl (fun _ _ _ => Grew.trans) (fun _ _ _ _ _ h => h) (by kernel_rfl) ?_
 repeat (first
  | (refine TakeAll.pure (v := ?_) (by rfl) ?_ ?_; rotate_left; (intro w' g'; obtain ⟨q_0, q_1, q_2, q_3⟩ := hC w' g'; go_simp; first | done | with_reducible rfl); (simp only [Act.put, uzT, uz0, uz1]))
  | (refine TakeAll.skip (by rfl) ?_; (simp only [Act.put, uzT, uz0, uz1])))
 refine TakeAll.call (by rfl) 70 _ (fun _ => by go_simp; first | done | rfl) (fun w' g' => begin70 a2 b2 w') ?_
 simp only [Act.put, uzT, uz0, uz1]
 repeat (first
  | (refine TakeAll.pure (v := ?_) (by rfl) ?_ ?_; rotate_left; (intro w' g'; obtain ⟨q_0, q_1, q_2, q_3⟩ := hC w' g'; go_simp; first | done | with_reducible rfl); (simp only [Act.put, uzT, uz0, uz1]))
  | (refine TakeAll.skip (by rfl) ?_; (simp only [Act.put, uzT, uz0, uz1])))
 refine TakeAll.call (by rfl) 70 _ (fun _ => by go_simp; first | done | rfl) (fun w' g' => begin70 a1 b1 w') ?_
 simp only [Act.put, uzT, uz0, uz1]
 repeat (first
  | (refine TakeAll.pure (v := ?_) (by rfl) ?_ ?_; rotate_left; (intro w' g'; obtain ⟨q_0, q_1, q_2, q_3⟩ := hC w' g'; go_simp; first | done | with_reducible rfl); (simp only [Act.put, uzT, uz0, uz1]))
  | (refine TakeAll.skip (by rfl) ?_; (simp only [Act.put, uzT, uz0, uz1])))
 refine TakeAll.nil ?_
 intro w5 g5
 clear hC
 have G5 : Grew w0 w5 := (Grew.refl w0).drew.trans g5
 clear c0 c1 d0 d1 g5
 have x0 := G5.block X0.out
 have x1 := G5.block X1.out
 have x2 := G5.block X2.out
 have x3 := G5.block X3.out
 have c0 : w5.cell? ⟨w.heap.size, 0, none⟩ = some (.int .i64 a1) := by simp [World.cell?, x0]
 have c1 : w5.cell? ⟨w.heap.size, 1, none⟩ = some (.int .i64 b1) := by simp [World.cell?, x0]
 have d0 : w5.cell? ⟨w.heap.size + 1, 0, none⟩ = some (.int .i64 a2) := by simp [World.cell?, x1]
 have d1 : w5.cell? ⟨w.heap.size + 1, 1, none⟩ = some (.int .i64 b2) := by simp [World.cell?, x1]
 have e0 : w5.cell? ⟨w.heap.size + 1 + 1, 0, none⟩ = some (.int .i64 0) := by simp [World.cell?, x2]
 have e1 : w5.cell? ⟨w.heap.size + 1 + 1, 1, none⟩ = some (.int .i64 0) := by simp [World.cell?, x2]
 have f0 : w5.cell? ⟨w.heap.size + 1 + 1 + 1, 0, none⟩ = some (.int .i64 0) := by simp [World.cell?, x3]
 have f1 : w5.cell? ⟨w.heap.size + 1 + 1 + 1, 1, none⟩ = some (.int .i64 0) := by simp [World.cell?, x3]
 have e0' : w5.frozen? ⟨w.heap.size + 1 + 1, 0, none⟩ = false := by simp [World.frozen?, x2]
 have e1' : w5.frozen? ⟨w.heap.size + 1 + 1, 1, none⟩ = false := by simp [World.frozen?, x2]
 have f0' : w5.frozen? ⟨w.heap.size + 1 + 1 + 1, 0, none⟩ = false := by simp [World.frozen?, x3]
 have f1' : w5.frozen? ⟨w.heap.size + 1 + 1 + 1, 1, none⟩ = false := by simp [World.frozen?, x3]
 have GF := g0.trans G5
 clear x0 x1 x2 x3 g0 G5
 by_cases hlt : a2 < a1
 ·have ql : decide (a2 < a1) = true := decide_eq_true hlt
  go_wp2
  go_region
  go_wp2
  obtain ⟨r0, r1, r2, r3⟩ := cells4 e0 e1 f0 f1 (.int .i64 a2) (.int .i64 b2) (.int .i64 a1) (.int .i64 b1)
  have GQ : Grew w ((((w5.setCell ⟨w.heap.size + 1 + 1, 0, none⟩ (.int .i64 a2)).setCell ⟨w.heap.size + 1 + 1, 1, none⟩ (.int .i64 b2)).setCell ⟨w.heap.size + 1 + 1 + 1, 0, none⟩ (.int .i64 a1)).setCell ⟨w.heap.size + 1 + 1 + 1, 1, none⟩ (.int .i64 b1)) := (((GF.set (by simp; omega) _).set (by simp; omega) _).set (by simp; omega) _).set (by simp; omega) _
  obtain ⟨wf, hwf⟩ : ∃ y, y = (((w5.setCell ⟨w.heap.size + 1 + 1, 0, none⟩ (.int .i64 a2)).setCell ⟨w.heap.size + 1 + 1, 1, none⟩ (.int .i64 b2)).setCell ⟨w.heap.size + 1 + 1 + 1, 0, none⟩ (.int .i64 a1)).setCell ⟨w.heap.size + 1 + 1 + 1, 1, none⟩ (.int .i64 b1) := ⟨_, rfl⟩
  rw [← hwf] at r0 r1 r2 r3 GQ ⊢
  refine bodyPost_ret (v := .tuple #[.agg #[.int .i64 a2, .int .i64 b2], .agg #[.int .i64 a1, .int .i64 b1]]) (by simp [results, Tryz.results69, go_sem, r0, r1, r2, r3]) rfl ⟨rfl, GQ.drew⟩
 ·have ql : decide (a2 < a1) = false := decide_eq_false hlt
  go_wp2
  go_region
  go_wp2
  obtain ⟨r0, r1, r2, r3⟩ := cells4 e0 e1 f0 f1 (.int .i64 a1) (.int .i64 b1) (.int .i64 a2) (.int .i64 b2)
  have GQ : Grew w ((((w5.setCell ⟨w.heap.size + 1 + 1, 0, none⟩ (.int .i64 a1)).setCell ⟨w.heap.size + 1 + 1, 1, none⟩ (.int .i64 b1)).setCell ⟨w.heap.size + 1 + 1 + 1, 0, none⟩ (.int .i64 a2)).setCell ⟨w.heap.size + 1 + 1 + 1, 1, none⟩ (.int .i64 b2)) := (((GF.set (by simp; omega) _).set (by simp; omega) _).set (by simp; omega) _).set (by simp; omega) _
  obtain ⟨wf, hwf⟩ : ∃ y, y = (((w5.setCell ⟨w.heap.size + 1 + 1, 0, none⟩ (.int .i64 a1)).setCell ⟨w.heap.size + 1 + 1, 1, none⟩ (.int .i64 b1)).setCell ⟨w.heap.size + 1 + 1 + 1, 0, none⟩ (.int .i64 a2)).setCell ⟨w.heap.size + 1 + 1 + 1, 1, none⟩ (.int .i64 b2) := ⟨_, rfl⟩
  rw [← hwf] at r0 r1 r2 r3 GQ ⊢
  refine bodyPost_ret (v := .tuple #[.agg #[.int .i64 a1, .int .i64 b1], .agg #[.int .i64 a2, .int .i64 b2]]) (by simp [results, Tryz.results69, go_sem, r0, r1, r2, r3]) rfl ⟨rfl, GQ.drew⟩
/-- The minutes between two valid duties, or -1. -/
def restF (x y : Du) : Int := if y.a < x.a then max (x.a - y.b) (-1) else max (y.a - x.b) (-1)
set_option maxHeartbeats 1000000 in
theorem rest32 (x y : Du) (w : World) (hx : durOk x = true) (hy : durOk y = true) : Calls Tryz.prog 32 #[duV x, duV y] w fun r w' => r = .returned (.int .i64 (restF x y)) ∧ Grew w w' := by
 obtain ⟨a1, b1, s1⟩ := x
 obtain ⟨a2, b2, s2⟩ := y
 have hx1 : decide (0 ≤ a1 ∧ a1 < b1 ∧ b1 ≤ 52596000 ∧ b1 - a1 ≤ 1440 ∧ 0 ≤ s1 ∧ s1 ≤ 65535) = true := hx
 have hy1 : decide (0 ≤ a2 ∧ a2 < b2 ∧ b2 ≤ 52596000 ∧ b2 - a2 ≤ 1440 ∧ 0 ≤ s2 ∧ s2 ≤ 65535) = true := hy
 have HX := Lib.hid hx1
 have HY := Lib.hid hy1
 obtain ⟨h1, h2, h3, h4, _, _⟩ := of_decide_eq_true hx1
 obtain ⟨k1, k2, k3, k4, _, _⟩ := of_decide_eq_true hy1
 obtain ⟨z, hz⟩ : ∃ z, restF ⟨a1, b1, s1⟩ ⟨a2, b2, s2⟩ = z := ⟨_, rfl⟩
 rw [hz]
 have HZ := Lib.hid hz
 clear hx hy hx1 hy1 hz
 show Calls Tryz.prog 32 #[.agg #[.int .i64 a1, .int .i64 b1, .int .i64 s1], .agg #[.int .i64 a2, .int .i64 b2, .int .i64 s2]] w _
 have gb : Grew w ((w.alloc (.cells #[.int .i64 a1, .int .i64 b1, .int .i64 s1] 47)).alloc (.cells #[.int .i64 a2, .int .i64 b2, .int .i64 s2] 47)) := ((Grew.refl w).alloc _).alloc _
 have x0 : ((w.alloc (.cells #[.int .i64 a1, .int .i64 b1, .int .i64 s1] 47)).alloc (.cells #[.int .i64 a2, .int .i64 b2, .int .i64 s2] 47)).heap[w.heap.size]? = some (.cells #[.int .i64 a1, .int .i64 b1, .int .i64 s1] 47) := ((Grew.refl _).alloc _).block (World.alloc_heap_new w _)
 have x1 : ((w.alloc (.cells #[.int .i64 a1, .int .i64 b1, .int .i64 s1] 47)).alloc (.cells #[.int .i64 a2, .int .i64 b2, .int .i64 s2] 47)).heap[w.heap.size + 1]? = some (.cells #[.int .i64 a2, .int .i64 b2, .int .i64 s2] 47) := by
  have := World.alloc_heap_new (w.alloc (.cells #[.int .i64 a1, .int .i64 b1, .int .i64 s1] 47)) (.cells #[.int .i64 a2, .int .i64 b2, .int .i64 s2] 47); rwa [World.size_alloc] at this
 have X0 := Lib.hid x0
 have X1 := Lib.hid x1
 clear x0 x1
 go_enter Tryz.func32, Tryz.ntmps32
 go_wp2_with fail
 refine (sval38 a1 b1 s1 true _ HX.out).mono ?_
 rintro r w1 ⟨rfl, g1⟩
 have x1 := g1.block X1.out
 have v0 : w1.cell? ⟨w.heap.size + 1, 0, none⟩ = some (.int .i64 a2) := by simp [World.cell?, x1]
 have v1 : w1.cell? ⟨w.heap.size + 1, 1, none⟩ = some (.int .i64 b2) := by simp [World.cell?, x1]
 have v2 : w1.cell? ⟨w.heap.size + 1, 2, none⟩ = some (.int .i64 s2) := by simp [World.cell?, x1]
 clear x1
 go_wp2_with fail
 refine (sval38 a2 b2 s2 true _ HY.out).mono ?_
 rintro r w2 ⟨rfl, g2⟩
 have G2 := g1.trans g2
 have x0 := G2.block X0.out
 have x1 := G2.block X1.out
 clear v0 v1 v2 g1 g2
 have v0 : w2.cell? ⟨w.heap.size, 0, none⟩ = some (.int .i64 a1) := by simp [World.cell?, x0]
 have v1 : w2.cell? ⟨w.heap.size, 1, none⟩ = some (.int .i64 b1) := by simp [World.cell?, x0]
 have u0 : w2.cell? ⟨w.heap.size + 1, 0, none⟩ = some (.int .i64 a2) := by simp [World.cell?, x1]
 have u1 : w2.cell? ⟨w.heap.size + 1, 1, none⟩ = some (.int .i64 b2) := by simp [World.cell?, x1]
 have GF := gb.trans G2
 clear x0 x1 G2 gb
 go_wp2_with fail
 refine (ordered69 a1 b1 a2 b2 w2).mono ?_
 rintro r w3 ⟨rfl, g3⟩
 have GF3 := GF.trans g3
 clear v0 v1 u0 u1 GF g3
 by_cases hlt : a2 < a1
 ·skip
  simp only [hlt, if_true]
  obtain ⟨w4, hw4⟩ : ∃ y, y = (w3.alloc (.cells #[.int .i64 a2, .int .i64 b2] 154)).alloc (.cells #[.int .i64 a1, .int .i64 b1] 154) := ⟨_, rfl⟩
  have g4 : Grew w3 w4 := by rw [hw4]; exact ((Grew.refl w3).alloc _).alloc _
  have x0 : w4.heap[w3.heap.size]? = some (.cells #[.int .i64 a2, .int .i64 b2] 154) := by rw [hw4]; exact ((Grew.refl _).alloc _).block (World.alloc_heap_new w3 _)
  have x1 : w4.heap[w3.heap.size + 1]? = some (.cells #[.int .i64 a1, .int .i64 b1] 154) := by
   rw [hw4]; have := World.alloc_heap_new (w3.alloc (.cells #[.int .i64 a2, .int .i64 b2] 154)) (.cells #[.int .i64 a1, .int .i64 b1] 154); rwa [World.size_alloc] at this
  have c0 : w4.drew.cell? ⟨w3.heap.size, 0, none⟩ = some (.int .i64 a2) := (Grew.refl w4).drew.cell (by simp [World.cell?, x0])
  have c1 : w4.drew.cell? ⟨w3.heap.size, 1, none⟩ = some (.int .i64 b2) := (Grew.refl w4).drew.cell (by simp [World.cell?, x0])
  have d0 : w4.drew.cell? ⟨w3.heap.size + 1, 0, none⟩ = some (.int .i64 a1) := (Grew.refl w4).drew.cell (by simp [World.cell?, x1])
  have d1 : w4.drew.cell? ⟨w3.heap.size + 1, 1, none⟩ = some (.int .i64 b1) := (Grew.refl w4).drew.cell (by simp [World.cell?, x1])
  have G4 := GF3.trans g4
  clear x0 x1 GF3 g4
  go_upto_region 4 with (fail)
  rw [← hw4]
  clear hw4
  have es : IntKind.i64.wrap (a1 - b2) = a1 - b2 := IntWalk.i64_in _ (by omega)
  rcases Decidable.em (a1 - b2 < -1) with hm | hm
  ·have qm : decide (a1 - b2 < -1) = true := decide_eq_true hm
   have qm' : (if a1 - b2 < -1 then (-1 : Int) else a1 - b2) = -1 := if_pos hm
   have hC : ∀ w', Grew w4.drew w' → w'.cell? ⟨w3.heap.size, 0, none⟩ = some (.int .i64 a2) ∧ w'.cell? ⟨w3.heap.size, 1, none⟩ = some (.int .i64 b2) ∧ w'.cell? ⟨w3.heap.size + 1, 0, none⟩ = some (.int .i64 a1) ∧ w'.cell? ⟨w3.heap.size + 1, 1, none⟩ = some (.int .i64 b1) := fun w' g' => ⟨g'.cell c0, g'.cell c1, g'.cell d0, g'.cell d1⟩
   refine wp_region_seq (by kernel_rfl) Grew.refl (fun _ _ _ => Grew.trans) (fun _ _ _ _ _ h => h) (by kernel_rfl) ?_
   repeat (first
    | (refine TakeAll.pure (v := ?_) (by rfl) ?_ ?_; rotate_left; (intro w' g'; obtain ⟨q_0, q_1, q_2, q_3⟩ := hC w' g'; go_simp; first | done | with_reducible rfl); (simp only [Act.put, uzT, uz0, uz1]))
    | (refine TakeAll.skip (by rfl) ?_; (simp only [Act.put, uzT, uz0, uz1])))
   refine TakeAll.call (by rfl) 70 _ (fun _ => by go_simp; first | done | rfl) (fun w' g' => begin70 a1 b1 w') ?_
   simp only [Act.put, uzT, uz0, uz1]
   repeat (first
    | (refine TakeAll.pure (v := ?_) (by rfl) ?_ ?_; rotate_left; (intro w' g'; obtain ⟨q_0, q_1, q_2, q_3⟩ := hC w' g'; go_simp; first | done | with_reducible rfl); (simp only [Act.put, uzT, uz0, uz1]))
    | (refine TakeAll.skip (by rfl) ?_; (simp only [Act.put, uzT, uz0, uz1])))
   refine TakeAll.call (by rfl) 71 _ (fun _ => by go_simp; first | done | rfl) (fun w' g' => end71 a2 b2 w') ?_
   simp only [Act.put, uzT, uz0, uz1]
   repeat (first
    | (refine TakeAll.pure (v := ?_) (by rfl) ?_ ?_; rotate_left; (intro w' g'; obtain ⟨q_0, q_1, q_2, q_3⟩ := hC w' g'; go_simp; first | done | with_reducible rfl); (simp only [Act.put, uzT, uz0, uz1]))
    | (refine TakeAll.skip (by rfl) ?_; (simp only [Act.put, uzT, uz0, uz1])))
   refine TakeAll.nil ?_
   intro w5 g5
   clear hC
   go_wp2
   go_ret
   refine ⟨congrArg (fun b => Ending.returned (Value.int .i64 b)) ?_, G4.drew.trans g5⟩
   have := HZ.out; unfold restF at this; simp only at this; split at this <;> omega
  ·have qm : decide (a1 - b2 < -1) = false := decide_eq_false hm
   have qm' : (if a1 - b2 < -1 then (-1 : Int) else a1 - b2) = a1 - b2 := if_neg hm
   have hC : ∀ w', Grew w4.drew w' → w'.cell? ⟨w3.heap.size, 0, none⟩ = some (.int .i64 a2) ∧ w'.cell? ⟨w3.heap.size, 1, none⟩ = some (.int .i64 b2) ∧ w'.cell? ⟨w3.heap.size + 1, 0, none⟩ = some (.int .i64 a1) ∧ w'.cell? ⟨w3.heap.size + 1, 1, none⟩ = some (.int .i64 b1) := fun w' g' => ⟨g'.cell c0, g'.cell c1, g'.cell d0, g'.cell d1⟩
   refine wp_region_seq (by kernel_rfl) Grew.refl (fun _ _ _ => Grew.trans) (fun _ _ _ _ _ h => h) (by kernel_rfl) ?_
   repeat (first
    | (refine TakeAll.pure (v := ?_) (by rfl) ?_ ?_; rotate_left; (intro w' g'; obtain ⟨q_0, q_1, q_2, q_3⟩ := hC w' g'; go_simp; first | done | with_reducible rfl); (simp only [Act.put, uzT, uz0, uz1]))
    | (refine TakeAll.skip (by rfl) ?_; (simp only [Act.put, uzT, uz0, uz1])))
   refine TakeAll.call (by rfl) 70 _ (fun _ => by go_simp; first | done | rfl) (fun w' g' => begin70 a1 b1 w') ?_
   simp only [Act.put, uzT, uz0, uz1]
   repeat (first
    | (refine TakeAll.pure (v := ?_) (by rfl) ?_ ?_; rotate_left; (intro w' g'; obtain ⟨q_0, q_1, q_2, q_3⟩ := hC w' g'; go_simp; first | done | with_reducible rfl); (simp only [Act.put, uzT, uz0, uz1]))
    | (refine TakeAll.skip (by rfl) ?_; (simp only [Act.put, uzT, uz0, uz1])))
   refine TakeAll.call (by rfl) 71 _ (fun _ => by go_simp; first | done | rfl) (fun w' g' => end71 a2 b2 w') ?_
   simp only [Act.put, uzT, uz0, uz1]
   repeat (first
    | (refine TakeAll.pure (v := ?_) (by rfl) ?_ ?_; rotate_left; (intro w' g'; obtain ⟨q_0, q_1, q_2, q_3⟩ := hC w' g'; go_simp; first | done | with_reducible rfl); (simp only [Act.put, uzT, uz0, uz1]))
    | (refine TakeAll.skip (by rfl) ?_; (simp only [Act.put, uzT, uz0, uz1])))
   refine TakeAll.nil ?_
   intro w5 g5
   clear hC
   go_wp2
   go_ret
   refine ⟨congrArg (fun b => Ending.returned (Value.int .i64 b)) ?_, G4.drew.trans g5⟩
   have := HZ.out; unfold restF at this; simp only at this; split at this <;> omega
 ·skip
  simp only [hlt, if_false]
  obtain ⟨w4, hw4⟩ : ∃ y, y = (w3.alloc (.cells #[.int .i64 a1, .int .i64 b1] 154)).alloc (.cells #[.int .i64 a2, .int .i64 b2] 154) := ⟨_, rfl⟩
  have g4 : Grew w3 w4 := by rw [hw4]; exact ((Grew.refl w3).alloc _).alloc _
  have x0 : w4.heap[w3.heap.size]? = some (.cells #[.int .i64 a1, .int .i64 b1] 154) := by rw [hw4]; exact ((Grew.refl _).alloc _).block (World.alloc_heap_new w3 _)
  have x1 : w4.heap[w3.heap.size + 1]? = some (.cells #[.int .i64 a2, .int .i64 b2] 154) := by
   rw [hw4]; have := World.alloc_heap_new (w3.alloc (.cells #[.int .i64 a1, .int .i64 b1] 154)) (.cells #[.int .i64 a2, .int .i64 b2] 154); rwa [World.size_alloc] at this
  have c0 : w4.drew.cell? ⟨w3.heap.size, 0, none⟩ = some (.int .i64 a1) := (Grew.refl w4).drew.cell (by simp [World.cell?, x0])
  have c1 : w4.drew.cell? ⟨w3.heap.size, 1, none⟩ = some (.int .i64 b1) := (Grew.refl w4).drew.cell (by simp [World.cell?, x0])
  have d0 : w4.drew.cell? ⟨w3.heap.size + 1, 0, none⟩ = some (.int .i64 a2) := (Grew.refl w4).drew.cell (by simp [World.cell?, x1])
  have d1 : w4.drew.cell? ⟨w3.heap.size + 1, 1, none⟩ = some (.int .i64 b2) := (Grew.refl w4).drew.cell (by simp [World.cell?, x1])
  have G4 := GF3.trans g4
  clear x0 x1 GF3 g4
  go_upto_region 4 with (fail)
  rw [← hw4]
  clear hw4
  have es : IntKind.i64.wrap (a2 - b1) = a2 - b1 := IntWalk.i64_in _ (by omega)
  rcases Decidable.em (a2 - b1 < -1) with hm | hm
  ·have qm : decide (a2 - b1 < -1) = true := decide_eq_true hm
   have qm' : (if a2 - b1 < -1 then (-1 : Int) else a2 - b1) = -1 := if_pos hm
   have hC : ∀ w', Grew w4.drew w' → w'.cell? ⟨w3.heap.size, 0, none⟩ = some (.int .i64 a1) ∧ w'.cell? ⟨w3.heap.size, 1, none⟩ = some (.int .i64 b1) ∧ w'.cell? ⟨w3.heap.size + 1, 0, none⟩ = some (.int .i64 a2) ∧ w'.cell? ⟨w3.heap.size + 1, 1, none⟩ = some (.int .i64 b2) := fun w' g' => ⟨g'.cell c0, g'.cell c1, g'.cell d0, g'.cell d1⟩
   refine wp_region_seq (by kernel_rfl) Grew.refl (fun _ _ _ => Grew.trans) (fun _ _ _ _ _ h => h) (by kernel_rfl) ?_
   repeat (first
    | (refine TakeAll.pure (v := ?_) (by rfl) ?_ ?_; rotate_left; (intro w' g'; obtain ⟨q_0, q_1, q_2, q_3⟩ := hC w' g'; go_simp; first | done | with_reducible rfl); (simp only [Act.put, uzT, uz0, uz1]))
    | (refine TakeAll.skip (by rfl) ?_; (simp only [Act.put, uzT, uz0, uz1])))
   refine TakeAll.call (by rfl) 70 _ (fun _ => by go_simp; first | done | rfl) (fun w' g' => begin70 a2 b2 w') ?_
   simp only [Act.put, uzT, uz0, uz1]
   repeat (first
    | (refine TakeAll.pure (v := ?_) (by rfl) ?_ ?_; rotate_left; (intro w' g'; obtain ⟨q_0, q_1, q_2, q_3⟩ := hC w' g'; go_simp; first | done | with_reducible rfl); (simp only [Act.put, uzT, uz0, uz1]))
    | (refine TakeAll.skip (by rfl) ?_; (simp only [Act.put, uzT, uz0, uz1])))
   refine TakeAll.call (by rfl) 71 _ (fun _ => by go_simp; first | done | rfl) (fun w' g' => end71 a1 b1 w') ?_
   simp only [Act.put, uzT, uz0, uz1]
   repeat (first
    | (refine TakeAll.pure (v := ?_) (by rfl) ?_ ?_; rotate_left; (intro w' g'; obtain ⟨q_0, q_1, q_2, q_3⟩ := hC w' g'; go_simp; first | done | with_reducible rfl); (simp only [Act.put, uzT, uz0, uz1]))
    | (refine TakeAll.skip (by rfl) ?_; (simp only [Act.put, uzT, uz0, uz1])))
   refine TakeAll.nil ?_
   intro w5 g5
   clear hC
   go_wp2
   go_ret
   refine ⟨congrArg (fun b => Ending.returned (Value.int .i64 b)) ?_, G4.drew.trans g5⟩
   have := HZ.out; unfold restF at this; simp only at this; split at this <;> omega
  ·have qm : decide (a2 - b1 < -1) = false := decide_eq_false hm
   have qm' : (if a2 - b1 < -1 then (-1 : Int) else a2 - b1) = a2 - b1 := if_neg hm
   have hC : ∀ w', Grew w4.drew w' → w'.cell? ⟨w3.heap.size, 0, none⟩ = some (.int .i64 a1) ∧ w'.cell? ⟨w3.heap.size, 1, none⟩ = some (.int .i64 b1) ∧ w'.cell? ⟨w3.heap.size + 1, 0, none⟩ = some (.int .i64 a2) ∧ w'.cell? ⟨w3.heap.size + 1, 1, none⟩ = some (.int .i64 b2) := fun w' g' => ⟨g'.cell c0, g'.cell c1, g'.cell d0, g'.cell d1⟩
   refine wp_region_seq (by kernel_rfl) Grew.refl (fun _ _ _ => Grew.trans) (fun _ _ _ _ _ h => h) (by kernel_rfl) ?_
   repeat (first
    | (refine TakeAll.pure (v := ?_) (by rfl) ?_ ?_; rotate_left; (intro w' g'; obtain ⟨q_0, q_1, q_2, q_3⟩ := hC w' g'; go_simp; first | done | with_reducible rfl); (simp only [Act.put, uzT, uz0, uz1]))
    | (refine TakeAll.skip (by rfl) ?_; (simp only [Act.put, uzT, uz0, uz1])))
   refine TakeAll.call (by rfl) 70 _ (fun _ => by go_simp; first | done | rfl) (fun w' g' => begin70 a2 b2 w') ?_
   simp only [Act.put, uzT, uz0, uz1]
   repeat (first
    | (refine TakeAll.pure (v := ?_) (by rfl) ?_ ?_; rotate_left; (intro w' g'; obtain ⟨q_0, q_1, q_2, q_3⟩ := hC w' g'; go_simp; first | done | with_reducible rfl); (simp only [Act.put, uzT, uz0, uz1]))
    | (refine TakeAll.skip (by rfl) ?_; (simp only [Act.put, uzT, uz0, uz1])))
   refine TakeAll.call (by rfl) 71 _ (fun _ => by go_simp; first | done | rfl) (fun w' g' => end71 a1 b1 w') ?_
   simp only [Act.put, uzT, uz0, uz1]
   repeat (first
    | (refine TakeAll.pure (v := ?_) (by rfl) ?_ ?_; rotate_left; (intro w' g'; obtain ⟨q_0, q_1, q_2, q_3⟩ := hC w' g'; go_simp; first | done | with_reducible rfl); (simp only [Act.put, uzT, uz0, uz1]))
    | (refine TakeAll.skip (by rfl) ?_; (simp only [Act.put, uzT, uz0, uz1])))
   refine TakeAll.nil ?_
   intro w5 g5
   clear hC
   go_wp2
   go_ret
   refine ⟨congrArg (fun b => Ending.returned (Value.int .i64 b)) ?_, G4.drew.trans g5⟩
   have := HZ.out; unfold restF at this; simp only at this; split at this <;> omega
end Go.Proofs.YtnnbibmmofnkdaaGreat
