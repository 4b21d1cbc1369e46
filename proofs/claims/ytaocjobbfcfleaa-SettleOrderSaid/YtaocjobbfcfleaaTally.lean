/-
  The tallies: a row of four numbers for each payment; what an answer does to it; settle.effects.
-/
import Derived.Test.YtaocjobbfcfleaaBase
namespace Go.Proofs.Ytaocjobbfcfleaa
open Go.RowKit Go.Proofs WageMem WageOrd WageRec WageMap WageReg WageSet

def te (t : Tal) : List Value := [.int .i64 t.pd, .int .i64 t.bk, .int .i64 t.tk, .int .i64 t.rf]
theorem te_ok : EncOk te 4 where
  len := fun _ => rfl
  pos := by decide
  one := fun x u hu => by
    simp only [te, List.mem_cons, List.not_mem_nil, or_false] at hu
    rcases hu with rfl | rfl | rfl | rfl <;> rfl
theorem t_cells {w : World} {b o : Nat} {t : Tal} (h : w.rangeAt b o (te t)) : w.cell? ⟨b, o, none⟩ = some (.int .i64 t.pd) ∧ w.cell? ⟨b, o + 1, none⟩ = some (.int .i64 t.bk) ∧ w.cell? ⟨b, o + 2, none⟩ = some (.int .i64 t.tk) ∧ w.cell? ⟨b, o + 3, none⟩ = some (.int .i64 t.rf) :=
  ⟨h 0 _ rfl, h 1 _ rfl, h 2 _ rfl, h 3 _ rfl⟩

/-- Block g is a row of records. -/
def Blk {α : Type} (enc : α → List Value) (t : TypeId) (w : World) (g : Nat) (l : List α) : Prop := w.heap[g]? = some (.cells (l.flatMap enc).toArray t (0, 0))
section
variable {α : Type} {enc : α → List Value} {size : Nat} {t : TypeId} {w w' : World} {g : Nat} {l : List α}
theorem Blk.grew (h : Blk enc t w g l) (k : Grew w w') : Blk enc t w' g l := k.block h
theorem Blk.lt (h : Blk enc t w g l) : g < w.heap.size := (Array.getElem?_eq_some_iff.1 h).1
theorem Blk.kept {row : Option Nat} (h : Blk enc t w g l) (k : w.grownBy w' row) (hne : some g ≠ row) : Blk enc t w' g l := (k.block g h.lt hne).trans h
theorem Blk.at_ (E : EncOk enc size) (h : Blk enc t w g l) {k : Nat} {x : α} (hx : l[k]? = some x) : w.rangeAt g (k * size) (enc x) := fun j u hu => by
  have := flat_at E hx hu
  rw [cell_of_row w g (k * size + j) _ t (0, 0) h]
  simpa using this
theorem Blk.free (h : Blk enc t w g l) (j : Nat) : w.frozen? ⟨g, j, none⟩ = false := by
  have h' : w.heap[g]? = some (.cells (l.flatMap enc).toArray t (0, 0)) := h
  simp [World.frozen?, h']
theorem flat_set (E : EncOk enc size) {x y : α} {j : Nat} {u : Value} (hj : j < size) (hy : enc y = (enc x).set j u) : ∀ {l : List α} {k : Nat}, l[k]? = some x → (l.flatMap enc).set (k * size + j) u = (l.set k y).flatMap enc
  | z :: l, 0, h => by
    have e : z = x := by simpa using h
    subst e
    rw [List.flatMap_cons, List.set_cons_zero, List.flatMap_cons, hy, Nat.zero_mul, Nat.zero_add, List.set_append, if_pos (by rw [E.len]; exact hj)]
  | z :: l, k + 1, h => by
    have h' : l[k]? = some x := by simpa using h
    rw [List.flatMap_cons, List.set_cons_succ, List.flatMap_cons, ← flat_set E hj hy h', List.set_append, if_neg (by rw [E.len, Nat.add_mul]; omega), E.len, Nat.add_mul]
    congr 2
    omega
theorem Blk.set (E : EncOk enc size) (h : Blk enc t w g l) {k j : Nat} {x y : α} {u : Value} (hx : l[k]? = some x) (hj : j < size) (hy : enc y = (enc x).set j u) : Blk enc t (w.setCell ⟨g, k * size + j, none⟩ u) g (l.set k y) := by
  unfold Blk
  rw [Go.heap_setCell_same w g _ _ t u h, List.setIfInBounds_toArray, flat_set E hj hy hx]
theorem set_grown (w : World) (g i : Nat) (u : Value) : w.grownBy (w.setCell ⟨g, i, none⟩ u) (some g) := ⟨rfl, rfl, rfl, by simp [World.setCell], fun k _ hk => Below.heap_setCell _ _ _ _ (fun e => hk (by rw [e]))⟩
end
set_option maxRecDepth 100000 in
set_option maxHeartbeats 1000000 in
theorem eff1_any {g k : Nat} {t : Tal} {w : World} (c : Int) (hr : w.rangeAt g (k * 4) (te t)) (hf : ∀ j, w.frozen? ⟨g, j, none⟩ = false) (h1 : -4000000000000000000 ≤ t.tk) (h2 : t.tk ≤ 4000000000000000000)  : Calls Try.prog 68 #[.pointer (some ⟨g, k * 4, none⟩), .int .i64 c] w fun e w' => e = .returned (.tuple #[]) ∧ w' = w.setCell ⟨g, k * 4 + 2, none⟩ (.int .i64 (t.tk + 1)) := by
  obtain ⟨c0, c1, c2, c3⟩ := t_cells hr
  have f0 := hf (k * 4)
  have f1 := hf (k * 4 + 1)
  have f2 := hf (k * 4 + 2)
  have f3 := hf (k * 4 + 3)
  clear hr hf
  go_enter Try.func68, Try.ntmps68
  go_wp2_with fail
  go_end0
  exact ⟨rfl, rfl⟩
set_option maxRecDepth 100000 in
set_option maxHeartbeats 1000000 in
theorem eff2_any {g k : Nat} {t : Tal} {w : World} (c : Int) (hr : w.rangeAt g (k * 4) (te t)) (hf : ∀ j, w.frozen? ⟨g, j, none⟩ = false) (h1 : -4000000000000000000 ≤ t.pd) (h2 : t.pd ≤ 4000000000000000000) (h3 : -4000000000000000000 ≤ c) (h4 : c ≤ 4000000000000000000) : Calls Try.prog 69 #[.pointer (some ⟨g, k * 4, none⟩), .int .i64 c] w fun e w' => e = .returned (.tuple #[]) ∧ w' = w.setCell ⟨g, k * 4, none⟩ (.int .i64 (t.pd + c)) := by
  obtain ⟨c0, c1, c2, c3⟩ := t_cells hr
  have f0 := hf (k * 4)
  have f1 := hf (k * 4 + 1)
  have f2 := hf (k * 4 + 2)
  have f3 := hf (k * 4 + 3)
  clear hr hf
  go_enter Try.func69, Try.ntmps69
  go_wp2_with fail
  go_end0
  exact ⟨rfl, rfl⟩
set_option maxRecDepth 100000 in
set_option maxHeartbeats 1000000 in
theorem eff3_any {g k : Nat} {t : Tal} {w : World} (c : Int) (hr : w.rangeAt g (k * 4) (te t)) (hf : ∀ j, w.frozen? ⟨g, j, none⟩ = false) (h1 : -4000000000000000000 ≤ t.rf) (h2 : t.rf ≤ 4000000000000000000)  : Calls Try.prog 70 #[.pointer (some ⟨g, k * 4, none⟩), .int .i64 c] w fun e w' => e = .returned (.tuple #[]) ∧ w' = w.setCell ⟨g, k * 4 + 3, none⟩ (.int .i64 (t.rf + 1)) := by
  obtain ⟨c0, c1, c2, c3⟩ := t_cells hr
  have f0 := hf (k * 4)
  have f1 := hf (k * 4 + 1)
  have f2 := hf (k * 4 + 2)
  have f3 := hf (k * 4 + 3)
  clear hr hf
  go_enter Try.func70, Try.ntmps70
  go_wp2_with fail
  go_end0
  exact ⟨rfl, rfl⟩
set_option maxRecDepth 100000 in
set_option maxHeartbeats 1000000 in
theorem eff4_any {g k : Nat} {t : Tal} {w : World} (c : Int) (hr : w.rangeAt g (k * 4) (te t)) (hf : ∀ j, w.frozen? ⟨g, j, none⟩ = false) (h1 : -4000000000000000000 ≤ t.bk) (h2 : t.bk ≤ 4000000000000000000) (h3 : -4000000000000000000 ≤ c) (h4 : c ≤ 4000000000000000000) : Calls Try.prog 71 #[.pointer (some ⟨g, k * 4, none⟩), .int .i64 c] w fun e w' => e = .returned (.tuple #[]) ∧ w' = w.setCell ⟨g, k * 4 + 1, none⟩ (.int .i64 (t.bk + c)) := by
  obtain ⟨c0, c1, c2, c3⟩ := t_cells hr
  have f0 := hf (k * 4)
  have f1 := hf (k * 4 + 1)
  have f2 := hf (k * 4 + 2)
  have f3 := hf (k * 4 + 3)
  clear hr hf
  go_enter Try.func71, Try.ntmps71
  go_wp2_with fail
  go_end0
  exact ⟨rfl, rfl⟩

/-- The function that an answer of a kind calls. -/
def effF (k : Int) : FuncId := if k = 1 then 68 else if k = 2 then 69 else if k = 3 then 70 else 71
theorem eff_val {g k : Nat} {ts : List Tal} {t : Tal} {a : Ans} {w : World} {f : FuncId} (hf : effF a.k = f) (hk : a.k = 1 ∨ a.k = 2 ∨ a.k = 3 ∨ a.k = 4) (h : Blk te 111 w g ts) (ht : ts[k]? = some t)
    (b1 : ∀ z ∈ [t.pd, t.bk, t.tk, t.rf, a.c], -4000000000000000000 ≤ z ∧ z ≤ 4000000000000000000) :
    Calls Try.prog f #[.pointer (some ⟨g, k * 4, none⟩), .int .i64 a.c] w fun e w' => e = .returned (.tuple #[]) ∧ Blk te 111 w' g (ts.set k (talA t a)) ∧ w.grownBy w' (some g) := by
  have hr := h.at_ te_ok ht
  simp only [List.mem_cons, List.not_mem_nil, or_false, forall_eq_or_imp, forall_eq] at b1
  obtain ⟨⟨p1, p2⟩, ⟨p3, p4⟩, ⟨p5, p6⟩, ⟨p7, p8⟩, p9, p10⟩ := b1
  rcases hk with e | e | e | e
  · obtain rfl : 68 = f := by rw [← hf, e]; rfl
    refine (eff1_any a.c hr h.free p5 p6).mono ?_
    rintro r w' ⟨rfl, rfl⟩
    exact ⟨rfl, h.set te_ok (j := 2) ht (by decide) (by simp [te, talA, e]), set_grown _ _ _ _⟩
  · obtain rfl : 69 = f := by rw [← hf, e]; rfl
    refine (eff2_any a.c hr h.free p1 p2 p9 p10).mono ?_
    rintro r w' ⟨rfl, rfl⟩
    exact ⟨rfl, h.set te_ok (j := 0) ht (by decide) (by simp [te, talA, e]), set_grown _ _ _ _⟩
  · obtain rfl : 70 = f := by rw [← hf, e]; rfl
    refine (eff3_any a.c hr h.free p7 p8).mono ?_
    rintro r w' ⟨rfl, rfl⟩
    exact ⟨rfl, h.set te_ok (j := 3) ht (by decide) (by simp [te, talA, e]), set_grown _ _ _ _⟩
  · obtain rfl : 71 = f := by rw [← hf, e]; rfl
    refine (eff4_any a.c hr h.free p3 p4 p9 p10).mono ?_
    rintro r w' ⟨rfl, rfl⟩
    exact ⟨rfl, h.set te_ok (j := 1) ht (by decide) (by simp [te, talA, e]), set_grown _ _ _ _⟩
set_option maxRecDepth 100000 in
set_option maxHeartbeats 1000000 in
theorem effects_any (w : World) : Calls Try.prog 60 #[] w fun e w' => e = .returned (.agg #[.nilFunc, .func (.func 68) #[] #[], .func (.func 69) #[] #[], .func (.func 70) #[] #[], .func (.func 71) #[] #[]]) ∧ Grew w w' := by
  go_enter Try.func60, Try.ntmps60
  go_wp2_with fail
  refine bodyPost_ret (results_cell_row rfl _ _ w.heap.size 107 _ (0, 0) _ rfl (heap_alloc_new w _) Try.underlying107 rfl (by kernel_rfl)) rfl ?_
  exact ⟨rfl, (Grew.refl w).alloc _⟩
end Go.Proofs.Ytaocjobbfcfleaa
