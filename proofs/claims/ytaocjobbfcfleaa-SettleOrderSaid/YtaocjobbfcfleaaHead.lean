/-
  The law's own words: answer, head.
-/
import Derived.Test.YtaocjobbfcfleaaSameD
import Derived.Test.YtaocjobbfcfleaaApply
import Derived.Test.YtaocjobbfcfleaaSpent
namespace Go.Proofs.Ytaocjobbfcfleaa
open Go.RowKit Go.Proofs WageMem WageOrd WageRec WageMap WageReg WageSet
def pA : Pay := ⟨5, ⟨#[97, 110, 110, 97]⟩, 100, 10⟩
def Dn : Desk := ⟨[], []⟩
def D1 : Desk := ⟨[⟨pA, 1, 0, 0⟩], []⟩
def D2 : Desk := ⟨[⟨pA, 3, 60, 0⟩], [⟨2, 5, 2, 60, 20⟩]⟩
def D3 : Desk := ⟨[⟨pA, 3, 60, 0⟩], [⟨1, 5, 1, 0, 20⟩, ⟨2, 5, 2, 60, 20⟩]⟩
def D4 : Desk := ⟨[⟨pA, 5, 60, 30⟩], [⟨1, 5, 1, 0, 20⟩, ⟨2, 5, 2, 60, 20⟩, ⟨7, 5, 4, 30, 20⟩]⟩
def D8 : Desk := ⟨[⟨pA, 4, 0, 0⟩], [⟨4, 5, 3, 0, 20⟩]⟩
theorem hE1 : sendE ⟨[], []⟩ pA = 0 := by decide +kernel
theorem hD1 : sendD ⟨[], []⟩ pA = D1 := by decide +kernel
theorem hE2 : applyE D1 ⟨2, 5, 2, 60, 20⟩ = 0 := by decide +kernel
theorem hD2 : applyD D1 ⟨2, 5, 2, 60, 20⟩ = D2 := by decide +kernel
theorem hE3 : applyE D2 ⟨1, 5, 1, 0, 20⟩ = 0 := by decide +kernel
theorem hD3 : applyD D2 ⟨1, 5, 1, 0, 20⟩ = D3 := by decide +kernel
theorem hE4 : applyE D3 ⟨7, 5, 4, 30, 20⟩ = 0 := by decide +kernel
theorem hD4 : applyD D3 ⟨7, 5, 4, 30, 20⟩ = D4 := by decide +kernel
theorem hE5 : applyE D3 ⟨3, 5, 2, 50, 20⟩ = 401 := by decide +kernel
theorem hD5 : applyD D3 ⟨3, 5, 2, 50, 20⟩ = Dn := by decide +kernel
theorem hE6 : applyE D3 ⟨2, 5, 2, 61, 20⟩ = 5 := by decide +kernel
theorem hD6 : applyD D3 ⟨2, 5, 2, 61, 20⟩ = Dn := by decide +kernel
theorem hE7 : applyE D3 ⟨2, 5, 2, 60, 20⟩ = 0 := by decide +kernel
theorem hD7 : applyD D3 ⟨2, 5, 2, 60, 20⟩ = D3 := by decide +kernel
theorem hE8 : applyE D1 ⟨4, 5, 3, 0, 20⟩ = 0 := by decide +kernel
theorem hD8 : applyD D1 ⟨4, 5, 3, 0, 20⟩ = D8 := by decide +kernel
theorem hS1 : spentL D1 ⟨#[97, 110, 110, 97]⟩ = 100 := by decide +kernel
theorem hS4 : spentL D4 ⟨#[97, 110, 110, 97]⟩ = 70 := by decide +kernel
theorem hS8 : spentL D8 ⟨#[97, 110, 110, 97]⟩ = 0 := by decide +kernel
theorem hM : sameD D3 D3 = true := by decide +kernel
def E4 : List Ent := [⟨10, ⟨#[97, 110, 110, 97]⟩, transit, 100, 10, 10⟩, ⟨5, transit, bank, 60, 20, 20⟩, ⟨15, bank, ⟨#[97, 110, 110, 97]⟩, 30, 20, 20⟩]
theorem hL4 : entL D4 = E4 := by decide +kernel
structure DX where
  A : Option Addr
  n : Nat
  c : Nat
  B : Option Addr
  m : Nat
  e : Nat
  b : Nat
theorem cut_region {P : Program} {Q : Exit → Act → World → Prop} {X : Type} {id : Nat} {ops : Array Oper} {a : Act} {w : World} (hm : P.follows .mixedOrders = true) (S : World → World → Prop) (F : Act → X → Act) (R : X → World → Prop) (hJ : ∀ x w', R x w' → Q .normal (F a x) w')
    (h : ∀ wd, Grew w wd → (∀ x w', R x w' → Q .normal (F a x) w') → wpAnyH P .any ops Q (S wd) ops.size (Array.replicate ops.size false) a wd) : (Code.region id ops true).wp P Q a w := wp_region_H hm (S w.drew) (h w.drew (Grew.refl w).drew hJ)
theorem send_val {A B : Option Addr} {n c m e : Nat} {d d' : Desk} {p : Pay} {w : World} {z : Int} (h : DeskIs w A n c B m e d) (hp : p.acc.size ≤ maxLen) (he : sendE d p = z) (hd : sendD d p = d') : Calls Try.prog 11 #[.agg #[.slice A n c, .slice B m e], pv p] w (RetD z d' w) := by
  subst he hd; exact send_any A B n c m e d p w h hp
theorem apply_val {A B : Option Addr} {n c m e : Nat} {d d' : Desk} {a : Ans} {w : World} {z : Int} (h : DeskIs w A n c B m e d) (he : applyE d a = z) (hd : applyD d a = d') : Calls Try.prog 13 #[.agg #[.slice A n c, .slice B m e], av a] w (RetD z d' w) := by
  subst he hd; exact apply_any A B n c m e d a w h
theorem entries_val {A B : Option Addr} {n c m e : Nat} {d : Desk} {l : List Ent} {w : World} (h : DeskIs w A n c B m e d) (he : entL d = l) : Calls Try.prog 19 #[.agg #[.slice A n c, .slice B m e]] w (RetEs l w) := by
  subst he; exact entries_any A B n c m e d w h
theorem answer_any (q k c : Int) (w : World) : Calls Try.prog 28 #[.int .i64 q, .int .i64 k, .int .i64 c] w fun r w' => r = .returned (.agg #[.int .i64 q, .int .i64 5, .int .i64 k, .int .i64 c, .int .i64 20]) ∧ Grew w w' := by
  go_enter Try.func28, Try.ntmps28
  go_wp2_with fail
  exact bodyPost_ret (v := .agg #[.int .i64 q, .int .i64 5, .int .i64 k, .int .i64 c, .int .i64 20]) (by simp [results, Try.results28, go_sem]) rfl ⟨rfl, (Grew.refl w).alloc _⟩
/-- A row keeps its cells when another value is laid over a block whose cells are slices. -/
theorem range_row {w : World} {b g o : Nat} {l : List Value} (h : w.rangeAt g o l) (hb : w.heap[b]? = some (.cells #[.slice none 0 0, .slice none 0 0] 25 (0, 0))) (hl : ∀ v ∈ l, v ≠ .slice none 0 0) (cs : Array Value) : (w.setRow b cs).rangeAt g o l := fun j u hu => by
  by_cases e : g = b
  · subst e
    exfalso
    have h1 := h j u hu
    have h2 := cell_of_row w g (o + j) _ 25 (0, 0) hb
    rw [h1] at h2
    have h3 := List.mem_of_getElem? hu
    have h4 := Array.mem_of_getElem? h2.symm
    simp at h4
    exact hl u h3 h4
  · exact (cell_setRow_other _ _ _ _ e).trans (h j u hu)
theorem cells_row {w : World} {b : Nat} {A : Option Addr} {l : List Value} (h : Cells w A l) (hb : w.heap[b]? = some (.cells #[.slice none 0 0, .slice none 0 0] 25 (0, 0))) (hl : ∀ v ∈ l, v ≠ .slice none 0 0) (cs : Array Value) : Cells (w.setRow b cs) A l := by
  intro hx
  obtain ⟨g, o, h1, h2⟩ := h hx
  exact ⟨g, o, h1, range_row h2 hb hl cs⟩
theorem recs_row {α : Type} {enc : α → List Value} {size : Nat} {w : World} {b : Nat} {A : Option Addr} {n c : Nat} {l : List α} (h : Recs enc size w A n c l) (hb : w.heap[b]? = some (.cells #[.slice none 0 0, .slice none 0 0] 25 (0, 0))) (hl : ∀ x, ∀ v ∈ enc x, v ≠ .slice none 0 0) (cs : Array Value) : Recs enc size (w.setRow b cs) A n c l :=
  ⟨h.1, h.2.1, h.2.2.1, h.2.2.2.1, cells_row h.2.2.2.2.1 hb (fun v hv => by obtain ⟨x, _, hx⟩ := List.mem_flatMap.1 hv; exact hl x v hx) cs, h.2.2.2.2.2⟩
theorem desk_row {w : World} {b : Nat} {A B : Option Addr} {n c m e : Nat} {d : Desk} (h : DeskIs w A n c B m e d) (hb : w.heap[b]? = some (.cells #[.slice none 0 0, .slice none 0 0] 25 (0, 0))) (cs : Array Value) : DeskIs (w.setRow b cs) A n c B m e d :=
  ⟨⟨recs_row h.1.1 hb (fun x v hv => by unfold se at hv; simp at hv; rcases hv with rfl | rfl | rfl | rfl | rfl | rfl | rfl <;> simp) cs, h.1.2⟩, recs_row h.2 hb (fun x v hv => by unfold ae at hv; simp at hv; rcases hv with rfl | rfl | rfl | rfl | rfl <;> simp) cs⟩

set_option maxRecDepth 100000 in
set_option maxHeartbeats 32000000 in
theorem head_true (w : World) : Calls Try.prog 10 #[] w fun e w' => e = .returned (.bool true) ∧ Grew w w' := by
  have gg : Grew w w := Grew.refl w
  go_enter Try.func10, Try.ntmps10
  go_wp2_with fail
  refine (send_val (p := pA) (desk_nil _) (by decide) hE1 hD1).mono ?_
  rintro r w0 ⟨A1, n1, c1, B1, m1, e1, rfl, hd1, g⟩
  replace gg := gg.trans g
  clear g
  obtain ⟨w1, hw1⟩ : ∃ y, y = w0.alloc (.cells #[.slice A1 n1 c1, .slice B1 m1 e1] 25) := ⟨_, rfl⟩
  have g : Grew w0 w1 := by rw [hw1]; exact (Grew.refl _).alloc _
  obtain ⟨b1, hb1⟩ : ∃ z, z = w0.heap.size := ⟨_, rfl⟩
  have HR1 : Hid (w1.rangeAt b1 0 [.slice A1 n1 c1, .slice B1 m1 e1]) := by unfold Hid; rw [hw1, hb1]; exact range_new w0 _ 25
  have HD1 : Hid (DeskIs w1 A1 n1 c1 B1 m1 e1 D1) := hd1.grew g
  replace gg := gg.trans g
  clear hd1 g
  go_upto_region 2 with (fail)
  rw [← hw1, ← hb1]
  clear hw1 hb1
  refine cut_region (X := DX) (by kernel_rfl) (fun wd w' => Grew wd w') (fun a x => (((((((a.put (some 25) (.agg #[.slice A1 n1 c1, .slice B1 m1 e1])).put (some 26) (.agg #[.int .i64 2, .int .i64 5, .int .i64 2, .int .i64 60, .int .i64 20])).put (some 27) (.tuple #[.agg #[.slice x.A x.n x.c, .slice x.B x.m x.e], .int .i64 0])).put (some 24) (.tuple #[.agg #[.slice x.A x.n x.c, .slice x.B x.m x.e], .int .i64 0])).put (some 28) (.agg #[.slice x.A x.n x.c, .slice x.B x.m x.e])).put (some 29) (.int .i64 0)).put (some 3) (.pointer (some ⟨x.b, 0, none⟩))).put (some 4) (.int .i64 0)) (fun x w' => Hid (DeskIs w' x.A x.n x.c x.B x.m x.e D2) ∧ Hid (w'.rangeAt x.b 0 [.slice x.A x.n x.c, .slice x.B x.m x.e]) ∧ Grew w1 w') ?_ ?_
  rotate_left
  · intro wd gwd J0
    have HJ := Lib.hid J0
    have HDL := HD1
    obtain ⟨wl, hwl⟩ : ∃ y, y = w1 := ⟨_, rfl⟩
    rw [← hwl] at HJ HDL HR1 gwd
    have hC : ∀ w', Grew wd w' → w'.cell? ⟨b1, 0, none⟩ = some (.slice A1 n1 c1) ∧ w'.cell? ⟨b1, 1, none⟩ = some (.slice B1 m1 e1) := fun w' g' => by
      have h0 := range_grew HR1.out (gwd.trans g') 0 _ rfl
      have h1 := range_grew HR1.out (gwd.trans g') 1 _ rfl
      simp only [Nat.zero_add] at h0 h1
      exact ⟨h0, h1⟩
    clear hwl J0
    refine wpAnyH_takes (fun _ _ _ _ _ h => h) (Grew.refl _) [0] (fuel' := 8) (by kernel_rfl) (by kernel_rfl) (by simp only [pickOps, List.getElem?_toArray, List.getElem?_cons_zero]; rfl) ?_
    repeat (first
      | (refine TakeP.pure (v := ?_) (by rfl) ?_ ?_; rotate_left; (intro w' g'; obtain ⟨s0, s1⟩ := hC w' g'; go_simp; first | done | with_reducible rfl); (simp only [Act.put, List.setIfInBounds_toArray, List.set_cons_zero, List.set_cons_succ])))
    refine TakeP.nil ?_
    refine wpAnyH_two (i := 1) (j := 6) (by kernel_rfl) (fuel' := 7) (by kernel_rfl) (by simp only [pickOps, List.getElem?_toArray, List.getElem?_cons_zero, List.getElem?_cons_succ]; rfl) rfl (by simp only [pickOps, List.getElem?_toArray, List.getElem?_cons_zero, List.getElem?_cons_succ]; rfl) rfl ?_ ?_
    · intro K hK
      refine wp_call 28 #[.int .i64 2, .int .i64 2, .int .i64 60] (by go_simp; first | done | rfl) ?_
      refine (answer_any 2 2 60 _).mono ?_
      rintro r v6 ⟨rfl, g6⟩
      have S6 : Grew wd v6 := g6
      refine ⟨_, rfl, hK _ _ S6 ?_⟩
      clear hK K g6
      simp only [Act.put, List.setIfInBounds_toArray, List.set_cons_zero, List.set_cons_succ]
      refine wpAnyH_two (i := 2) (j := 6) (by kernel_rfl) (fuel' := 6) (by kernel_rfl) (by simp only [pickOps, List.getElem?_toArray, List.getElem?_cons_zero, List.getElem?_cons_succ]; rfl) rfl (by simp only [pickOps, List.getElem?_toArray, List.getElem?_cons_zero, List.getElem?_cons_succ]; rfl) rfl ?_ ?_
      · intro K hK
        refine wp_call 13 #[.agg #[.slice A1 n1 c1, .slice B1 m1 e1], .agg #[.int .i64 2, .int .i64 5, .int .i64 2, .int .i64 60, .int .i64 20]] (by go_simp; first | done | rfl) ?_
        refine (apply_val (HDL.out.grew (gwd.trans S6)) hE2 hD2).mono ?_
        rintro r v7 ⟨A8, n8, c8, B8, m8, e8, rfl, hd7, g7⟩
        have S7 : Grew wd v7 := S6.trans g7
        refine ⟨_, rfl, hK _ _ S7 ?_⟩
        clear hK K
        simp only [Act.put, List.setIfInBounds_toArray, List.set_cons_zero, List.set_cons_succ]
        refine wpAnyH_takes (fun _ _ _ _ _ h => h) S7 [3, 4, 5] (fuel' := 3) (by kernel_rfl) (by kernel_rfl) (by simp only [pickOps, List.getElem?_toArray, List.getElem?_cons_zero, List.getElem?_cons_succ]; rfl) ?_
        repeat (first
          | (refine TakeP.pure (v := ?_) (by rfl) ?_ ?_; rotate_left; (intro w' g'; go_simp; first | done | with_reducible rfl); (simp only [Act.put, List.setIfInBounds_toArray, List.set_cons_zero, List.set_cons_succ])))
        refine TakeP.nil ?_
        refine wpAnyH_step (i := 6) (by kernel_rfl) (fuel' := 2) (by kernel_rfl) (by simp only [pickOps, List.getElem?_toArray, List.getElem?_cons_zero, List.getElem?_cons_succ]; rfl) (by rfl) ?_
        intro K hK
        go_simp
        have S0 := S7.alloc (.cells #[.slice none 0 0, .slice none 0 0] 25)
        refine hK _ _ S0 ?_
        clear hK K
        obtain ⟨v8, hv8⟩ : ∃ y, y = v7.alloc (.cells #[.slice none 0 0, .slice none 0 0] 25) := ⟨_, rfl⟩
        have gZ : Grew v7 v8 := by rw [hv8]; exact (Grew.refl _).alloc _
        have HB0 : Hid (v8.heap[v7.heap.size]? = some (.cells #[.slice none 0 0, .slice none 0 0] 25)) := by unfold Hid; rw [hv8]; exact heap_alloc_new _ _
        have hbb0 := S7.le
        rw [← hv8] at S0 ⊢
        obtain ⟨bb, hb0⟩ : ∃ z, z = v7.heap.size := ⟨_, rfl⟩
        have hbb : wd.heap.size ≤ bb := by rw [hb0]; exact hbb0
        rw [← hb0] at HB0 ⊢
        clear hv8 hb0 hbb0
        have HB8 := HB0
        have HD8 := Lib.hid (hd7.grew gZ)
        have S8 := S0
        clear hd7 gZ g7 S7 S6 HB0 S0
        refine wpAnyH_step (i := 7) (by kernel_rfl) (fuel' := 1) (by kernel_rfl) (by simp only [pickOps, List.getElem?_toArray, List.getElem?_cons_zero, List.getElem?_cons_succ]; rfl) (by rfl) ?_
        intro K hK
        refine wp_store_row 25 (.tmp 3) (.tmp 28) rfl bb #[.slice A8 n8 c8, .slice B8 m8 e8] rfl rfl 25 _ HB8.out size25 rfl (by simp [Value.oneCell']) ?_
        have S9 := grew_setRow S8 hbb #[.slice A8 n8 c8, .slice B8 m8 e8]
        refine hK _ _ S9 ?_
        clear hK K
        have HB9 := setRow_heap v8 bb _ #[.slice A8 n8 c8, .slice B8 m8 e8] 25 (0, 0) HB8.out
        have HD9 := desk_row HD8.out HB8.out #[.slice A8 n8 c8, .slice B8 m8 e8]
        refine wpAnyH_takes (fun _ _ _ _ _ h => h) S9 [8] (fuel' := 0) (by kernel_rfl) (by kernel_rfl) (by simp only [pickOps, List.getElem?_toArray, List.getElem?_cons_zero, List.getElem?_cons_succ]; rfl) ?_
        repeat (first
          | (refine TakeP.pure (v := ?_) (by rfl) ?_ ?_; rotate_left; (intro w' g'; go_simp; first | done | with_reducible rfl); (simp only [Act.put, List.setIfInBounds_toArray, List.set_cons_zero, List.set_cons_succ])))
        refine TakeP.nil ?_
        refine wpAnyH_done (by kernel_rfl) ?_ _
        have J := HJ.out ⟨A8, n8, c8, B8, m8, e8, bb⟩ _ ⟨Lib.hid HD9, Lib.hid (row_at HB9), gwd.trans S9⟩
        simp only [Act.put, List.setIfInBounds_toArray, List.set_cons_zero, List.set_cons_succ] at J
        exact J
      · intro K hK
        go_simp
        have S0 := S6.alloc (.cells #[.slice none 0 0, .slice none 0 0] 25)
        refine hK _ _ S0 ?_
        clear hK K
        obtain ⟨v9, hv9⟩ : ∃ y, y = v6.alloc (.cells #[.slice none 0 0, .slice none 0 0] 25) := ⟨_, rfl⟩
        have gZ : Grew v6 v9 := by rw [hv9]; exact (Grew.refl _).alloc _
        have HB0 : Hid (v9.heap[v6.heap.size]? = some (.cells #[.slice none 0 0, .slice none 0 0] 25)) := by unfold Hid; rw [hv9]; exact heap_alloc_new _ _
        have hbb0 := S6.le
        rw [← hv9] at S0 ⊢
        obtain ⟨bb, hb0⟩ : ∃ z, z = v6.heap.size := ⟨_, rfl⟩
        have hbb : wd.heap.size ≤ bb := by rw [hb0]; exact hbb0
        rw [← hb0] at HB0 ⊢
        clear hv9 hb0 hbb0
        refine wpAnyH_step (i := 2) (by kernel_rfl) (fuel' := 5) (by kernel_rfl) (by simp only [pickOps, List.getElem?_toArray, List.getElem?_cons_zero, List.getElem?_cons_succ]; rfl) (by rfl) ?_
        intro K hK
        refine wp_call 13 #[.agg #[.slice A1 n1 c1, .slice B1 m1 e1], .agg #[.int .i64 2, .int .i64 5, .int .i64 2, .int .i64 60, .int .i64 20]] (by go_simp; first | done | rfl) ?_
        refine (apply_val (HDL.out.grew (gwd.trans S0)) hE2 hD2).mono ?_
        rintro r v7 ⟨A8, n8, c8, B8, m8, e8, rfl, hd7, g7⟩
        have S7 : Grew wd v7 := S0.trans g7
        refine ⟨_, rfl, hK _ _ S7 ?_⟩
        clear hK K
        simp only [Act.put, List.setIfInBounds_toArray, List.set_cons_zero, List.set_cons_succ]
        have HB8' := Lib.hid (g7.block HB0.out)
        have HD8 := Lib.hid hd7
        obtain ⟨v8, hv8⟩ : ∃ y, y = v7 := ⟨_, rfl⟩
        rw [← hv8] at HB8' HD8 S7 ⊢
        have HB8 := HB8'
        have S8 := S7
        clear hd7 gZ g7 S7 S6 HB0 S0 hv8 HB8'
        refine wpAnyH_takes (fun _ _ _ _ _ h => h) S8 [3, 4, 5] (fuel' := 2) (by kernel_rfl) (by kernel_rfl) (by simp only [pickOps, List.getElem?_toArray, List.getElem?_cons_zero, List.getElem?_cons_succ]; rfl) ?_
        repeat (first
          | (refine TakeP.pure (v := ?_) (by rfl) ?_ ?_; rotate_left; (intro w' g'; go_simp; first | done | with_reducible rfl); (simp only [Act.put, List.setIfInBounds_toArray, List.set_cons_zero, List.set_cons_succ])))
        refine TakeP.nil ?_
        refine wpAnyH_step (i := 7) (by kernel_rfl) (fuel' := 1) (by kernel_rfl) (by simp only [pickOps, List.getElem?_toArray, List.getElem?_cons_zero, List.getElem?_cons_succ]; rfl) (by rfl) ?_
        intro K hK
        refine wp_store_row 25 (.tmp 3) (.tmp 28) rfl bb #[.slice A8 n8 c8, .slice B8 m8 e8] rfl rfl 25 _ HB8.out size25 rfl (by simp [Value.oneCell']) ?_
        have S9 := grew_setRow S8 hbb #[.slice A8 n8 c8, .slice B8 m8 e8]
        refine hK _ _ S9 ?_
        clear hK K
        have HB9 := setRow_heap v8 bb _ #[.slice A8 n8 c8, .slice B8 m8 e8] 25 (0, 0) HB8.out
        have HD9 := desk_row HD8.out HB8.out #[.slice A8 n8 c8, .slice B8 m8 e8]
        refine wpAnyH_takes (fun _ _ _ _ _ h => h) S9 [8] (fuel' := 0) (by kernel_rfl) (by kernel_rfl) (by simp only [pickOps, List.getElem?_toArray, List.getElem?_cons_zero, List.getElem?_cons_succ]; rfl) ?_
        repeat (first
          | (refine TakeP.pure (v := ?_) (by rfl) ?_ ?_; rotate_left; (intro w' g'; go_simp; first | done | with_reducible rfl); (simp only [Act.put, List.setIfInBounds_toArray, List.set_cons_zero, List.set_cons_succ])))
        refine TakeP.nil ?_
        refine wpAnyH_done (by kernel_rfl) ?_ _
        have J := HJ.out ⟨A8, n8, c8, B8, m8, e8, bb⟩ _ ⟨Lib.hid HD9, Lib.hid (row_at HB9), gwd.trans S9⟩
        simp only [Act.put, List.setIfInBounds_toArray, List.set_cons_zero, List.set_cons_succ] at J
        exact J
    · intro K hK
      go_simp
      have S0 := (Grew.refl wd).alloc (.cells #[.slice none 0 0, .slice none 0 0] 25)
      refine hK _ _ S0 ?_
      clear hK K
      obtain ⟨v9, hv9⟩ : ∃ y, y = wd.alloc (.cells #[.slice none 0 0, .slice none 0 0] 25) := ⟨_, rfl⟩
      have gZ : Grew wd v9 := by rw [hv9]; exact (Grew.refl _).alloc _
      have HB0 : Hid (v9.heap[wd.heap.size]? = some (.cells #[.slice none 0 0, .slice none 0 0] 25)) := by unfold Hid; rw [hv9]; exact heap_alloc_new _ _
      have hbb0 := (Grew.refl wd).le
      rw [← hv9] at S0 ⊢
      obtain ⟨bb, hb0⟩ : ∃ z, z = wd.heap.size := ⟨_, rfl⟩
      have hbb : wd.heap.size ≤ bb := by rw [hb0]; exact hbb0
      rw [← hb0] at HB0 ⊢
      clear hv9 hb0 hbb0
      refine wpAnyH_step (i := 1) (by kernel_rfl) (fuel' := 6) (by kernel_rfl) (by simp only [pickOps, List.getElem?_toArray, List.getElem?_cons_zero, List.getElem?_cons_succ]; rfl) (by rfl) ?_
      intro K hK
      refine wp_call 28 #[.int .i64 2, .int .i64 2, .int .i64 60] (by go_simp; first | done | rfl) ?_
      refine (answer_any 2 2 60 _).mono ?_
      rintro r v6 ⟨rfl, g6⟩
      have S6 : Grew wd v6 := S0.trans g6
      refine ⟨_, rfl, hK _ _ S6 ?_⟩
      clear hK K
      simp only [Act.put, List.setIfInBounds_toArray, List.set_cons_zero, List.set_cons_succ]
      have HB6 := Lib.hid (g6.block HB0.out)
      refine wpAnyH_step (i := 2) (by kernel_rfl) (fuel' := 5) (by kernel_rfl) (by simp only [pickOps, List.getElem?_toArray, List.getElem?_cons_zero, List.getElem?_cons_succ]; rfl) (by rfl) ?_
      intro K hK
      refine wp_call 13 #[.agg #[.slice A1 n1 c1, .slice B1 m1 e1], .agg #[.int .i64 2, .int .i64 5, .int .i64 2, .int .i64 60, .int .i64 20]] (by go_simp; first | done | rfl) ?_
      refine (apply_val (HDL.out.grew (gwd.trans S6)) hE2 hD2).mono ?_
      rintro r v7 ⟨A8, n8, c8, B8, m8, e8, rfl, hd7, g7⟩
      have S7 : Grew wd v7 := S6.trans g7
      refine ⟨_, rfl, hK _ _ S7 ?_⟩
      clear hK K
      simp only [Act.put, List.setIfInBounds_toArray, List.set_cons_zero, List.set_cons_succ]
      have HB8' := Lib.hid (g7.block HB6.out)
      have HD8 := Lib.hid hd7
      obtain ⟨v8, hv8⟩ : ∃ y, y = v7 := ⟨_, rfl⟩
      rw [← hv8] at HB8' HD8 S7 ⊢
      have HB8 := HB8'
      have S8 := S7
      clear hd7 gZ g6 g7 S7 S6 HB0 HB6 S0 hv8 HB8'
      refine wpAnyH_takes (fun _ _ _ _ _ h => h) S8 [3, 4, 5] (fuel' := 2) (by kernel_rfl) (by kernel_rfl) (by simp only [pickOps, List.getElem?_toArray, List.getElem?_cons_zero, List.getElem?_cons_succ]; rfl) ?_
      repeat (first
        | (refine TakeP.pure (v := ?_) (by rfl) ?_ ?_; rotate_left; (intro w' g'; go_simp; first | done | with_reducible rfl); (simp only [Act.put, List.setIfInBounds_toArray, List.set_cons_zero, List.set_cons_succ])))
      refine TakeP.nil ?_
      refine wpAnyH_step (i := 7) (by kernel_rfl) (fuel' := 1) (by kernel_rfl) (by simp only [pickOps, List.getElem?_toArray, List.getElem?_cons_zero, List.getElem?_cons_succ]; rfl) (by rfl) ?_
      intro K hK
      refine wp_store_row 25 (.tmp 3) (.tmp 28) rfl bb #[.slice A8 n8 c8, .slice B8 m8 e8] rfl rfl 25 _ HB8.out size25 rfl (by simp [Value.oneCell']) ?_
      have S9 := grew_setRow S8 hbb #[.slice A8 n8 c8, .slice B8 m8 e8]
      refine hK _ _ S9 ?_
      clear hK K
      have HB9 := setRow_heap v8 bb _ #[.slice A8 n8 c8, .slice B8 m8 e8] 25 (0, 0) HB8.out
      have HD9 := desk_row HD8.out HB8.out #[.slice A8 n8 c8, .slice B8 m8 e8]
      refine wpAnyH_takes (fun _ _ _ _ _ h => h) S9 [8] (fuel' := 0) (by kernel_rfl) (by kernel_rfl) (by simp only [pickOps, List.getElem?_toArray, List.getElem?_cons_zero, List.getElem?_cons_succ]; rfl) ?_
      repeat (first
        | (refine TakeP.pure (v := ?_) (by rfl) ?_ ?_; rotate_left; (intro w' g'; go_simp; first | done | with_reducible rfl); (simp only [Act.put, List.setIfInBounds_toArray, List.set_cons_zero, List.set_cons_succ])))
      refine TakeP.nil ?_
      refine wpAnyH_done (by kernel_rfl) ?_ _
      have J := HJ.out ⟨A8, n8, c8, B8, m8, e8, bb⟩ _ ⟨Lib.hid HD9, Lib.hid (row_at HB9), gwd.trans S9⟩
      simp only [Act.put, List.setIfInBounds_toArray, List.set_cons_zero, List.set_cons_succ] at J
      exact J
  · rintro ⟨A2, n2, c2, B2, m2, e2, b2⟩ w2 ⟨HD2, HR2, g⟩
    simp only [Act.put, List.setIfInBounds_toArray, List.set_cons_zero, List.set_cons_succ]
    replace HD1 := Lib.hid (HD1.out.grew g)
    replace HR1 := Lib.hid (range_grew HR1.out g)
    replace gg := gg.trans g
    clear g
    skip
    go_wp2_with fail
    refine cut_region (X := DX) (by kernel_rfl) (fun wd w' => Grew wd w') (fun a x => (((((((a.put (some 31) (.agg #[.slice A2 n2 c2, .slice B2 m2 e2])).put (some 32) (.agg #[.int .i64 1, .int .i64 5, .int .i64 1, .int .i64 0, .int .i64 20])).put (some 33) (.tuple #[.agg #[.slice x.A x.n x.c, .slice x.B x.m x.e], .int .i64 0])).put (some 30) (.tuple #[.agg #[.slice x.A x.n x.c, .slice x.B x.m x.e], .int .i64 0])).put (some 34) (.agg #[.slice x.A x.n x.c, .slice x.B x.m x.e])).put (some 35) (.int .i64 0)).put (some 5) (.pointer (some ⟨x.b, 0, none⟩))).put (some 6) (.int .i64 0)) (fun x w' => Hid (DeskIs w' x.A x.n x.c x.B x.m x.e D3) ∧ Hid (w'.rangeAt x.b 0 [.slice x.A x.n x.c, .slice x.B x.m x.e]) ∧ Grew w2 w') ?_ ?_
    rotate_left
    · intro wd gwd J0
      have HJ := Lib.hid J0
      have HDL := HD2
      obtain ⟨wl, hwl⟩ : ∃ y, y = w2 := ⟨_, rfl⟩
      rw [← hwl] at HJ HDL HR2 gwd
      have hC : ∀ w', Grew wd w' → w'.cell? ⟨b2, 0, none⟩ = some (.slice A2 n2 c2) ∧ w'.cell? ⟨b2, 1, none⟩ = some (.slice B2 m2 e2) := fun w' g' => by
        have h0 := range_grew HR2.out (gwd.trans g') 0 _ rfl
        have h1 := range_grew HR2.out (gwd.trans g') 1 _ rfl
        simp only [Nat.zero_add] at h0 h1
        exact ⟨h0, h1⟩
      clear hwl J0
      refine wpAnyH_takes (fun _ _ _ _ _ h => h) (Grew.refl _) [0] (fuel' := 8) (by kernel_rfl) (by kernel_rfl) (by simp only [pickOps, List.getElem?_toArray, List.getElem?_cons_zero]; rfl) ?_
      repeat (first
        | (refine TakeP.pure (v := ?_) (by rfl) ?_ ?_; rotate_left; (intro w' g'; obtain ⟨s0, s1⟩ := hC w' g'; go_simp; first | done | with_reducible rfl); (simp only [Act.put, List.setIfInBounds_toArray, List.set_cons_zero, List.set_cons_succ])))
      refine TakeP.nil ?_
      refine wpAnyH_two (i := 1) (j := 6) (by kernel_rfl) (fuel' := 7) (by kernel_rfl) (by simp only [pickOps, List.getElem?_toArray, List.getElem?_cons_zero, List.getElem?_cons_succ]; rfl) rfl (by simp only [pickOps, List.getElem?_toArray, List.getElem?_cons_zero, List.getElem?_cons_succ]; rfl) rfl ?_ ?_
      · intro K hK
        refine wp_call 28 #[.int .i64 1, .int .i64 1, .int .i64 0] (by go_simp; first | done | rfl) ?_
        refine (answer_any 1 1 0 _).mono ?_
        rintro r v6 ⟨rfl, g6⟩
        have S6 : Grew wd v6 := g6
        refine ⟨_, rfl, hK _ _ S6 ?_⟩
        clear hK K g6
        simp only [Act.put, List.setIfInBounds_toArray, List.set_cons_zero, List.set_cons_succ]
        refine wpAnyH_two (i := 2) (j := 6) (by kernel_rfl) (fuel' := 6) (by kernel_rfl) (by simp only [pickOps, List.getElem?_toArray, List.getElem?_cons_zero, List.getElem?_cons_succ]; rfl) rfl (by simp only [pickOps, List.getElem?_toArray, List.getElem?_cons_zero, List.getElem?_cons_succ]; rfl) rfl ?_ ?_
        · intro K hK
          refine wp_call 13 #[.agg #[.slice A2 n2 c2, .slice B2 m2 e2], .agg #[.int .i64 1, .int .i64 5, .int .i64 1, .int .i64 0, .int .i64 20]] (by go_simp; first | done | rfl) ?_
          refine (apply_val (HDL.out.grew (gwd.trans S6)) hE3 hD3).mono ?_
          rintro r v7 ⟨A8, n8, c8, B8, m8, e8, rfl, hd7, g7⟩
          have S7 : Grew wd v7 := S6.trans g7
          refine ⟨_, rfl, hK _ _ S7 ?_⟩
          clear hK K
          simp only [Act.put, List.setIfInBounds_toArray, List.set_cons_zero, List.set_cons_succ]
          refine wpAnyH_takes (fun _ _ _ _ _ h => h) S7 [3, 4, 5] (fuel' := 3) (by kernel_rfl) (by kernel_rfl) (by simp only [pickOps, List.getElem?_toArray, List.getElem?_cons_zero, List.getElem?_cons_succ]; rfl) ?_
          repeat (first
            | (refine TakeP.pure (v := ?_) (by rfl) ?_ ?_; rotate_left; (intro w' g'; go_simp; first | done | with_reducible rfl); (simp only [Act.put, List.setIfInBounds_toArray, List.set_cons_zero, List.set_cons_succ])))
          refine TakeP.nil ?_
          refine wpAnyH_step (i := 6) (by kernel_rfl) (fuel' := 2) (by kernel_rfl) (by simp only [pickOps, List.getElem?_toArray, List.getElem?_cons_zero, List.getElem?_cons_succ]; rfl) (by rfl) ?_
          intro K hK
          go_simp
          have S0 := S7.alloc (.cells #[.slice none 0 0, .slice none 0 0] 25)
          refine hK _ _ S0 ?_
          clear hK K
          obtain ⟨v8, hv8⟩ : ∃ y, y = v7.alloc (.cells #[.slice none 0 0, .slice none 0 0] 25) := ⟨_, rfl⟩
          have gZ : Grew v7 v8 := by rw [hv8]; exact (Grew.refl _).alloc _
          have HB0 : Hid (v8.heap[v7.heap.size]? = some (.cells #[.slice none 0 0, .slice none 0 0] 25)) := by unfold Hid; rw [hv8]; exact heap_alloc_new _ _
          have hbb0 := S7.le
          rw [← hv8] at S0 ⊢
          obtain ⟨bb, hb0⟩ : ∃ z, z = v7.heap.size := ⟨_, rfl⟩
          have hbb : wd.heap.size ≤ bb := by rw [hb0]; exact hbb0
          rw [← hb0] at HB0 ⊢
          clear hv8 hb0 hbb0
          have HB8 := HB0
          have HD8 := Lib.hid (hd7.grew gZ)
          have S8 := S0
          clear hd7 gZ g7 S7 S6 HB0 S0
          refine wpAnyH_step (i := 7) (by kernel_rfl) (fuel' := 1) (by kernel_rfl) (by simp only [pickOps, List.getElem?_toArray, List.getElem?_cons_zero, List.getElem?_cons_succ]; rfl) (by rfl) ?_
          intro K hK
          refine wp_store_row 25 (.tmp 5) (.tmp 34) rfl bb #[.slice A8 n8 c8, .slice B8 m8 e8] rfl rfl 25 _ HB8.out size25 rfl (by simp [Value.oneCell']) ?_
          have S9 := grew_setRow S8 hbb #[.slice A8 n8 c8, .slice B8 m8 e8]
          refine hK _ _ S9 ?_
          clear hK K
          have HB9 := setRow_heap v8 bb _ #[.slice A8 n8 c8, .slice B8 m8 e8] 25 (0, 0) HB8.out
          have HD9 := desk_row HD8.out HB8.out #[.slice A8 n8 c8, .slice B8 m8 e8]
          refine wpAnyH_takes (fun _ _ _ _ _ h => h) S9 [8] (fuel' := 0) (by kernel_rfl) (by kernel_rfl) (by simp only [pickOps, List.getElem?_toArray, List.getElem?_cons_zero, List.getElem?_cons_succ]; rfl) ?_
          repeat (first
            | (refine TakeP.pure (v := ?_) (by rfl) ?_ ?_; rotate_left; (intro w' g'; go_simp; first | done | with_reducible rfl); (simp only [Act.put, List.setIfInBounds_toArray, List.set_cons_zero, List.set_cons_succ])))
          refine TakeP.nil ?_
          refine wpAnyH_done (by kernel_rfl) ?_ _
          have J := HJ.out ⟨A8, n8, c8, B8, m8, e8, bb⟩ _ ⟨Lib.hid HD9, Lib.hid (row_at HB9), gwd.trans S9⟩
          simp only [Act.put, List.setIfInBounds_toArray, List.set_cons_zero, List.set_cons_succ] at J
          exact J
        · intro K hK
          go_simp
          have S0 := S6.alloc (.cells #[.slice none 0 0, .slice none 0 0] 25)
          refine hK _ _ S0 ?_
          clear hK K
          obtain ⟨v9, hv9⟩ : ∃ y, y = v6.alloc (.cells #[.slice none 0 0, .slice none 0 0] 25) := ⟨_, rfl⟩
          have gZ : Grew v6 v9 := by rw [hv9]; exact (Grew.refl _).alloc _
          have HB0 : Hid (v9.heap[v6.heap.size]? = some (.cells #[.slice none 0 0, .slice none 0 0] 25)) := by unfold Hid; rw [hv9]; exact heap_alloc_new _ _
          have hbb0 := S6.le
          rw [← hv9] at S0 ⊢
          obtain ⟨bb, hb0⟩ : ∃ z, z = v6.heap.size := ⟨_, rfl⟩
          have hbb : wd.heap.size ≤ bb := by rw [hb0]; exact hbb0
          rw [← hb0] at HB0 ⊢
          clear hv9 hb0 hbb0
          refine wpAnyH_step (i := 2) (by kernel_rfl) (fuel' := 5) (by kernel_rfl) (by simp only [pickOps, List.getElem?_toArray, List.getElem?_cons_zero, List.getElem?_cons_succ]; rfl) (by rfl) ?_
          intro K hK
          refine wp_call 13 #[.agg #[.slice A2 n2 c2, .slice B2 m2 e2], .agg #[.int .i64 1, .int .i64 5, .int .i64 1, .int .i64 0, .int .i64 20]] (by go_simp; first | done | rfl) ?_
          refine (apply_val (HDL.out.grew (gwd.trans S0)) hE3 hD3).mono ?_
          rintro r v7 ⟨A8, n8, c8, B8, m8, e8, rfl, hd7, g7⟩
          have S7 : Grew wd v7 := S0.trans g7
          refine ⟨_, rfl, hK _ _ S7 ?_⟩
          clear hK K
          simp only [Act.put, List.setIfInBounds_toArray, List.set_cons_zero, List.set_cons_succ]
          have HB8' := Lib.hid (g7.block HB0.out)
          have HD8 := Lib.hid hd7
          obtain ⟨v8, hv8⟩ : ∃ y, y = v7 := ⟨_, rfl⟩
          rw [← hv8] at HB8' HD8 S7 ⊢
          have HB8 := HB8'
          have S8 := S7
          clear hd7 gZ g7 S7 S6 HB0 S0 hv8 HB8'
          refine wpAnyH_takes (fun _ _ _ _ _ h => h) S8 [3, 4, 5] (fuel' := 2) (by kernel_rfl) (by kernel_rfl) (by simp only [pickOps, List.getElem?_toArray, List.getElem?_cons_zero, List.getElem?_cons_succ]; rfl) ?_
          repeat (first
            | (refine TakeP.pure (v := ?_) (by rfl) ?_ ?_; rotate_left; (intro w' g'; go_simp; first | done | with_reducible rfl); (simp only [Act.put, List.setIfInBounds_toArray, List.set_cons_zero, List.set_cons_succ])))
          refine TakeP.nil ?_
          refine wpAnyH_step (i := 7) (by kernel_rfl) (fuel' := 1) (by kernel_rfl) (by simp only [pickOps, List.getElem?_toArray, List.getElem?_cons_zero, List.getElem?_cons_succ]; rfl) (by rfl) ?_
          intro K hK
          refine wp_store_row 25 (.tmp 5) (.tmp 34) rfl bb #[.slice A8 n8 c8, .slice B8 m8 e8] rfl rfl 25 _ HB8.out size25 rfl (by simp [Value.oneCell']) ?_
          have S9 := grew_setRow S8 hbb #[.slice A8 n8 c8, .slice B8 m8 e8]
          refine hK _ _ S9 ?_
          clear hK K
          have HB9 := setRow_heap v8 bb _ #[.slice A8 n8 c8, .slice B8 m8 e8] 25 (0, 0) HB8.out
          have HD9 := desk_row HD8.out HB8.out #[.slice A8 n8 c8, .slice B8 m8 e8]
          refine wpAnyH_takes (fun _ _ _ _ _ h => h) S9 [8] (fuel' := 0) (by kernel_rfl) (by kernel_rfl) (by simp only [pickOps, List.getElem?_toArray, List.getElem?_cons_zero, List.getElem?_cons_succ]; rfl) ?_
          repeat (first
            | (refine TakeP.pure (v := ?_) (by rfl) ?_ ?_; rotate_left; (intro w' g'; go_simp; first | done | with_reducible rfl); (simp only [Act.put, List.setIfInBounds_toArray, List.set_cons_zero, List.set_cons_succ])))
          refine TakeP.nil ?_
          refine wpAnyH_done (by kernel_rfl) ?_ _
          have J := HJ.out ⟨A8, n8, c8, B8, m8, e8, bb⟩ _ ⟨Lib.hid HD9, Lib.hid (row_at HB9), gwd.trans S9⟩
          simp only [Act.put, List.setIfInBounds_toArray, List.set_cons_zero, List.set_cons_succ] at J
          exact J
      · intro K hK
        go_simp
        have S0 := (Grew.refl wd).alloc (.cells #[.slice none 0 0, .slice none 0 0] 25)
        refine hK _ _ S0 ?_
        clear hK K
        obtain ⟨v9, hv9⟩ : ∃ y, y = wd.alloc (.cells #[.slice none 0 0, .slice none 0 0] 25) := ⟨_, rfl⟩
        have gZ : Grew wd v9 := by rw [hv9]; exact (Grew.refl _).alloc _
        have HB0 : Hid (v9.heap[wd.heap.size]? = some (.cells #[.slice none 0 0, .slice none 0 0] 25)) := by unfold Hid; rw [hv9]; exact heap_alloc_new _ _
        have hbb0 := (Grew.refl wd).le
        rw [← hv9] at S0 ⊢
        obtain ⟨bb, hb0⟩ : ∃ z, z = wd.heap.size := ⟨_, rfl⟩
        have hbb : wd.heap.size ≤ bb := by rw [hb0]; exact hbb0
        rw [← hb0] at HB0 ⊢
        clear hv9 hb0 hbb0
        refine wpAnyH_step (i := 1) (by kernel_rfl) (fuel' := 6) (by kernel_rfl) (by simp only [pickOps, List.getElem?_toArray, List.getElem?_cons_zero, List.getElem?_cons_succ]; rfl) (by rfl) ?_
        intro K hK
        refine wp_call 28 #[.int .i64 1, .int .i64 1, .int .i64 0] (by go_simp; first | done | rfl) ?_
        refine (answer_any 1 1 0 _).mono ?_
        rintro r v6 ⟨rfl, g6⟩
        have S6 : Grew wd v6 := S0.trans g6
        refine ⟨_, rfl, hK _ _ S6 ?_⟩
        clear hK K
        simp only [Act.put, List.setIfInBounds_toArray, List.set_cons_zero, List.set_cons_succ]
        have HB6 := Lib.hid (g6.block HB0.out)
        refine wpAnyH_step (i := 2) (by kernel_rfl) (fuel' := 5) (by kernel_rfl) (by simp only [pickOps, List.getElem?_toArray, List.getElem?_cons_zero, List.getElem?_cons_succ]; rfl) (by rfl) ?_
        intro K hK
        refine wp_call 13 #[.agg #[.slice A2 n2 c2, .slice B2 m2 e2], .agg #[.int .i64 1, .int .i64 5, .int .i64 1, .int .i64 0, .int .i64 20]] (by go_simp; first | done | rfl) ?_
        refine (apply_val (HDL.out.grew (gwd.trans S6)) hE3 hD3).mono ?_
        rintro r v7 ⟨A8, n8, c8, B8, m8, e8, rfl, hd7, g7⟩
        have S7 : Grew wd v7 := S6.trans g7
        refine ⟨_, rfl, hK _ _ S7 ?_⟩
        clear hK K
        simp only [Act.put, List.setIfInBounds_toArray, List.set_cons_zero, List.set_cons_succ]
        have HB8' := Lib.hid (g7.block HB6.out)
        have HD8 := Lib.hid hd7
        obtain ⟨v8, hv8⟩ : ∃ y, y = v7 := ⟨_, rfl⟩
        rw [← hv8] at HB8' HD8 S7 ⊢
        have HB8 := HB8'
        have S8 := S7
        clear hd7 gZ g6 g7 S7 S6 HB0 HB6 S0 hv8 HB8'
        refine wpAnyH_takes (fun _ _ _ _ _ h => h) S8 [3, 4, 5] (fuel' := 2) (by kernel_rfl) (by kernel_rfl) (by simp only [pickOps, List.getElem?_toArray, List.getElem?_cons_zero, List.getElem?_cons_succ]; rfl) ?_
        repeat (first
          | (refine TakeP.pure (v := ?_) (by rfl) ?_ ?_; rotate_left; (intro w' g'; go_simp; first | done | with_reducible rfl); (simp only [Act.put, List.setIfInBounds_toArray, List.set_cons_zero, List.set_cons_succ])))
        refine TakeP.nil ?_
        refine wpAnyH_step (i := 7) (by kernel_rfl) (fuel' := 1) (by kernel_rfl) (by simp only [pickOps, List.getElem?_toArray, List.getElem?_cons_zero, List.getElem?_cons_succ]; rfl) (by rfl) ?_
        intro K hK
        refine wp_store_row 25 (.tmp 5) (.tmp 34) rfl bb #[.slice A8 n8 c8, .slice B8 m8 e8] rfl rfl 25 _ HB8.out size25 rfl (by simp [Value.oneCell']) ?_
        have S9 := grew_setRow S8 hbb #[.slice A8 n8 c8, .slice B8 m8 e8]
        refine hK _ _ S9 ?_
        clear hK K
        have HB9 := setRow_heap v8 bb _ #[.slice A8 n8 c8, .slice B8 m8 e8] 25 (0, 0) HB8.out
        have HD9 := desk_row HD8.out HB8.out #[.slice A8 n8 c8, .slice B8 m8 e8]
        refine wpAnyH_takes (fun _ _ _ _ _ h => h) S9 [8] (fuel' := 0) (by kernel_rfl) (by kernel_rfl) (by simp only [pickOps, List.getElem?_toArray, List.getElem?_cons_zero, List.getElem?_cons_succ]; rfl) ?_
        repeat (first
          | (refine TakeP.pure (v := ?_) (by rfl) ?_ ?_; rotate_left; (intro w' g'; go_simp; first | done | with_reducible rfl); (simp only [Act.put, List.setIfInBounds_toArray, List.set_cons_zero, List.set_cons_succ])))
        refine TakeP.nil ?_
        refine wpAnyH_done (by kernel_rfl) ?_ _
        have J := HJ.out ⟨A8, n8, c8, B8, m8, e8, bb⟩ _ ⟨Lib.hid HD9, Lib.hid (row_at HB9), gwd.trans S9⟩
        simp only [Act.put, List.setIfInBounds_toArray, List.set_cons_zero, List.set_cons_succ] at J
        exact J
    · rintro ⟨A3, n3, c3, B3, m3, e3, b3⟩ w3 ⟨HD3, HR3, g⟩
      simp only [Act.put, List.setIfInBounds_toArray, List.set_cons_zero, List.set_cons_succ]
      replace HD1 := Lib.hid (HD1.out.grew g)
      replace HR1 := Lib.hid (range_grew HR1.out g)
      replace HD2 := Lib.hid (HD2.out.grew g)
      replace HR2 := Lib.hid (range_grew HR2.out g)
      replace gg := gg.trans g
      clear g
      skip
      go_wp2_with fail
      refine cut_region (X := DX) (by kernel_rfl) (fun wd w' => Grew wd w') (fun a x => (((((((a.put (some 37) (.agg #[.slice A3 n3 c3, .slice B3 m3 e3])).put (some 38) (.agg #[.int .i64 7, .int .i64 5, .int .i64 4, .int .i64 30, .int .i64 20])).put (some 39) (.tuple #[.agg #[.slice x.A x.n x.c, .slice x.B x.m x.e], .int .i64 0])).put (some 36) (.tuple #[.agg #[.slice x.A x.n x.c, .slice x.B x.m x.e], .int .i64 0])).put (some 40) (.agg #[.slice x.A x.n x.c, .slice x.B x.m x.e])).put (some 41) (.int .i64 0)).put (some 7) (.pointer (some ⟨x.b, 0, none⟩))).put (some 8) (.int .i64 0)) (fun x w' => Hid (DeskIs w' x.A x.n x.c x.B x.m x.e D4) ∧ Hid (w'.rangeAt x.b 0 [.slice x.A x.n x.c, .slice x.B x.m x.e]) ∧ Grew w3 w') ?_ ?_
      rotate_left
      · intro wd gwd J0
        have HJ := Lib.hid J0
        have HDL := HD3
        obtain ⟨wl, hwl⟩ : ∃ y, y = w3 := ⟨_, rfl⟩
        rw [← hwl] at HJ HDL HR3 gwd
        have hC : ∀ w', Grew wd w' → w'.cell? ⟨b3, 0, none⟩ = some (.slice A3 n3 c3) ∧ w'.cell? ⟨b3, 1, none⟩ = some (.slice B3 m3 e3) := fun w' g' => by
          have h0 := range_grew HR3.out (gwd.trans g') 0 _ rfl
          have h1 := range_grew HR3.out (gwd.trans g') 1 _ rfl
          simp only [Nat.zero_add] at h0 h1
          exact ⟨h0, h1⟩
        clear hwl J0
        refine wpAnyH_takes (fun _ _ _ _ _ h => h) (Grew.refl _) [0] (fuel' := 8) (by kernel_rfl) (by kernel_rfl) (by simp only [pickOps, List.getElem?_toArray, List.getElem?_cons_zero]; rfl) ?_
        repeat (first
          | (refine TakeP.pure (v := ?_) (by rfl) ?_ ?_; rotate_left; (intro w' g'; obtain ⟨s0, s1⟩ := hC w' g'; go_simp; first | done | with_reducible rfl); (simp only [Act.put, List.setIfInBounds_toArray, List.set_cons_zero, List.set_cons_succ])))
        refine TakeP.nil ?_
        refine wpAnyH_two (i := 1) (j := 6) (by kernel_rfl) (fuel' := 7) (by kernel_rfl) (by simp only [pickOps, List.getElem?_toArray, List.getElem?_cons_zero, List.getElem?_cons_succ]; rfl) rfl (by simp only [pickOps, List.getElem?_toArray, List.getElem?_cons_zero, List.getElem?_cons_succ]; rfl) rfl ?_ ?_
        · intro K hK
          refine wp_call 28 #[.int .i64 7, .int .i64 4, .int .i64 30] (by go_simp; first | done | rfl) ?_
          refine (answer_any 7 4 30 _).mono ?_
          rintro r v6 ⟨rfl, g6⟩
          have S6 : Grew wd v6 := g6
          refine ⟨_, rfl, hK _ _ S6 ?_⟩
          clear hK K g6
          simp only [Act.put, List.setIfInBounds_toArray, List.set_cons_zero, List.set_cons_succ]
          refine wpAnyH_two (i := 2) (j := 6) (by kernel_rfl) (fuel' := 6) (by kernel_rfl) (by simp only [pickOps, List.getElem?_toArray, List.getElem?_cons_zero, List.getElem?_cons_succ]; rfl) rfl (by simp only [pickOps, List.getElem?_toArray, List.getElem?_cons_zero, List.getElem?_cons_succ]; rfl) rfl ?_ ?_
          · intro K hK
            refine wp_call 13 #[.agg #[.slice A3 n3 c3, .slice B3 m3 e3], .agg #[.int .i64 7, .int .i64 5, .int .i64 4, .int .i64 30, .int .i64 20]] (by go_simp; first | done | rfl) ?_
            refine (apply_val (HDL.out.grew (gwd.trans S6)) hE4 hD4).mono ?_
            rintro r v7 ⟨A8, n8, c8, B8, m8, e8, rfl, hd7, g7⟩
            have S7 : Grew wd v7 := S6.trans g7
            refine ⟨_, rfl, hK _ _ S7 ?_⟩
            clear hK K
            simp only [Act.put, List.setIfInBounds_toArray, List.set_cons_zero, List.set_cons_succ]
            refine wpAnyH_takes (fun _ _ _ _ _ h => h) S7 [3, 4, 5] (fuel' := 3) (by kernel_rfl) (by kernel_rfl) (by simp only [pickOps, List.getElem?_toArray, List.getElem?_cons_zero, List.getElem?_cons_succ]; rfl) ?_
            repeat (first
              | (refine TakeP.pure (v := ?_) (by rfl) ?_ ?_; rotate_left; (intro w' g'; go_simp; first | done | with_reducible rfl); (simp only [Act.put, List.setIfInBounds_toArray, List.set_cons_zero, List.set_cons_succ])))
            refine TakeP.nil ?_
            refine wpAnyH_step (i := 6) (by kernel_rfl) (fuel' := 2) (by kernel_rfl) (by simp only [pickOps, List.getElem?_toArray, List.getElem?_cons_zero, List.getElem?_cons_succ]; rfl) (by rfl) ?_
            intro K hK
            go_simp
            have S0 := S7.alloc (.cells #[.slice none 0 0, .slice none 0 0] 25)
            refine hK _ _ S0 ?_
            clear hK K
            obtain ⟨v8, hv8⟩ : ∃ y, y = v7.alloc (.cells #[.slice none 0 0, .slice none 0 0] 25) := ⟨_, rfl⟩
            have gZ : Grew v7 v8 := by rw [hv8]; exact (Grew.refl _).alloc _
            have HB0 : Hid (v8.heap[v7.heap.size]? = some (.cells #[.slice none 0 0, .slice none 0 0] 25)) := by unfold Hid; rw [hv8]; exact heap_alloc_new _ _
            have hbb0 := S7.le
            rw [← hv8] at S0 ⊢
            obtain ⟨bb, hb0⟩ : ∃ z, z = v7.heap.size := ⟨_, rfl⟩
            have hbb : wd.heap.size ≤ bb := by rw [hb0]; exact hbb0
            rw [← hb0] at HB0 ⊢
            clear hv8 hb0 hbb0
            have HB8 := HB0
            have HD8 := Lib.hid (hd7.grew gZ)
            have S8 := S0
            clear hd7 gZ g7 S7 S6 HB0 S0
            refine wpAnyH_step (i := 7) (by kernel_rfl) (fuel' := 1) (by kernel_rfl) (by simp only [pickOps, List.getElem?_toArray, List.getElem?_cons_zero, List.getElem?_cons_succ]; rfl) (by rfl) ?_
            intro K hK
            refine wp_store_row 25 (.tmp 7) (.tmp 40) rfl bb #[.slice A8 n8 c8, .slice B8 m8 e8] rfl rfl 25 _ HB8.out size25 rfl (by simp [Value.oneCell']) ?_
            have S9 := grew_setRow S8 hbb #[.slice A8 n8 c8, .slice B8 m8 e8]
            refine hK _ _ S9 ?_
            clear hK K
            have HB9 := setRow_heap v8 bb _ #[.slice A8 n8 c8, .slice B8 m8 e8] 25 (0, 0) HB8.out
            have HD9 := desk_row HD8.out HB8.out #[.slice A8 n8 c8, .slice B8 m8 e8]
            refine wpAnyH_takes (fun _ _ _ _ _ h => h) S9 [8] (fuel' := 0) (by kernel_rfl) (by kernel_rfl) (by simp only [pickOps, List.getElem?_toArray, List.getElem?_cons_zero, List.getElem?_cons_succ]; rfl) ?_
            repeat (first
              | (refine TakeP.pure (v := ?_) (by rfl) ?_ ?_; rotate_left; (intro w' g'; go_simp; first | done | with_reducible rfl); (simp only [Act.put, List.setIfInBounds_toArray, List.set_cons_zero, List.set_cons_succ])))
            refine TakeP.nil ?_
            refine wpAnyH_done (by kernel_rfl) ?_ _
            have J := HJ.out ⟨A8, n8, c8, B8, m8, e8, bb⟩ _ ⟨Lib.hid HD9, Lib.hid (row_at HB9), gwd.trans S9⟩
            simp only [Act.put, List.setIfInBounds_toArray, List.set_cons_zero, List.set_cons_succ] at J
            exact J
          · intro K hK
            go_simp
            have S0 := S6.alloc (.cells #[.slice none 0 0, .slice none 0 0] 25)
            refine hK _ _ S0 ?_
            clear hK K
            obtain ⟨v9, hv9⟩ : ∃ y, y = v6.alloc (.cells #[.slice none 0 0, .slice none 0 0] 25) := ⟨_, rfl⟩
            have gZ : Grew v6 v9 := by rw [hv9]; exact (Grew.refl _).alloc _
            have HB0 : Hid (v9.heap[v6.heap.size]? = some (.cells #[.slice none 0 0, .slice none 0 0] 25)) := by unfold Hid; rw [hv9]; exact heap_alloc_new _ _
            have hbb0 := S6.le
            rw [← hv9] at S0 ⊢
            obtain ⟨bb, hb0⟩ : ∃ z, z = v6.heap.size := ⟨_, rfl⟩
            have hbb : wd.heap.size ≤ bb := by rw [hb0]; exact hbb0
            rw [← hb0] at HB0 ⊢
            clear hv9 hb0 hbb0
            refine wpAnyH_step (i := 2) (by kernel_rfl) (fuel' := 5) (by kernel_rfl) (by simp only [pickOps, List.getElem?_toArray, List.getElem?_cons_zero, List.getElem?_cons_succ]; rfl) (by rfl) ?_
            intro K hK
            refine wp_call 13 #[.agg #[.slice A3 n3 c3, .slice B3 m3 e3], .agg #[.int .i64 7, .int .i64 5, .int .i64 4, .int .i64 30, .int .i64 20]] (by go_simp; first | done | rfl) ?_
            refine (apply_val (HDL.out.grew (gwd.trans S0)) hE4 hD4).mono ?_
            rintro r v7 ⟨A8, n8, c8, B8, m8, e8, rfl, hd7, g7⟩
            have S7 : Grew wd v7 := S0.trans g7
            refine ⟨_, rfl, hK _ _ S7 ?_⟩
            clear hK K
            simp only [Act.put, List.setIfInBounds_toArray, List.set_cons_zero, List.set_cons_succ]
            have HB8' := Lib.hid (g7.block HB0.out)
            have HD8 := Lib.hid hd7
            obtain ⟨v8, hv8⟩ : ∃ y, y = v7 := ⟨_, rfl⟩
            rw [← hv8] at HB8' HD8 S7 ⊢
            have HB8 := HB8'
            have S8 := S7
            clear hd7 gZ g7 S7 S6 HB0 S0 hv8 HB8'
            refine wpAnyH_takes (fun _ _ _ _ _ h => h) S8 [3, 4, 5] (fuel' := 2) (by kernel_rfl) (by kernel_rfl) (by simp only [pickOps, List.getElem?_toArray, List.getElem?_cons_zero, List.getElem?_cons_succ]; rfl) ?_
            repeat (first
              | (refine TakeP.pure (v := ?_) (by rfl) ?_ ?_; rotate_left; (intro w' g'; go_simp; first | done | with_reducible rfl); (simp only [Act.put, List.setIfInBounds_toArray, List.set_cons_zero, List.set_cons_succ])))
            refine TakeP.nil ?_
            refine wpAnyH_step (i := 7) (by kernel_rfl) (fuel' := 1) (by kernel_rfl) (by simp only [pickOps, List.getElem?_toArray, List.getElem?_cons_zero, List.getElem?_cons_succ]; rfl) (by rfl) ?_
            intro K hK
            refine wp_store_row 25 (.tmp 7) (.tmp 40) rfl bb #[.slice A8 n8 c8, .slice B8 m8 e8] rfl rfl 25 _ HB8.out size25 rfl (by simp [Value.oneCell']) ?_
            have S9 := grew_setRow S8 hbb #[.slice A8 n8 c8, .slice B8 m8 e8]
            refine hK _ _ S9 ?_
            clear hK K
            have HB9 := setRow_heap v8 bb _ #[.slice A8 n8 c8, .slice B8 m8 e8] 25 (0, 0) HB8.out
            have HD9 := desk_row HD8.out HB8.out #[.slice A8 n8 c8, .slice B8 m8 e8]
            refine wpAnyH_takes (fun _ _ _ _ _ h => h) S9 [8] (fuel' := 0) (by kernel_rfl) (by kernel_rfl) (by simp only [pickOps, List.getElem?_toArray, List.getElem?_cons_zero, List.getElem?_cons_succ]; rfl) ?_
            repeat (first
              | (refine TakeP.pure (v := ?_) (by rfl) ?_ ?_; rotate_left; (intro w' g'; go_simp; first | done | with_reducible rfl); (simp only [Act.put, List.setIfInBounds_toArray, List.set_cons_zero, List.set_cons_succ])))
            refine TakeP.nil ?_
            refine wpAnyH_done (by kernel_rfl) ?_ _
            have J := HJ.out ⟨A8, n8, c8, B8, m8, e8, bb⟩ _ ⟨Lib.hid HD9, Lib.hid (row_at HB9), gwd.trans S9⟩
            simp only [Act.put, List.setIfInBounds_toArray, List.set_cons_zero, List.set_cons_succ] at J
            exact J
        · intro K hK
          go_simp
          have S0 := (Grew.refl wd).alloc (.cells #[.slice none 0 0, .slice none 0 0] 25)
          refine hK _ _ S0 ?_
          clear hK K
          obtain ⟨v9, hv9⟩ : ∃ y, y = wd.alloc (.cells #[.slice none 0 0, .slice none 0 0] 25) := ⟨_, rfl⟩
          have gZ : Grew wd v9 := by rw [hv9]; exact (Grew.refl _).alloc _
          have HB0 : Hid (v9.heap[wd.heap.size]? = some (.cells #[.slice none 0 0, .slice none 0 0] 25)) := by unfold Hid; rw [hv9]; exact heap_alloc_new _ _
          have hbb0 := (Grew.refl wd).le
          rw [← hv9] at S0 ⊢
          obtain ⟨bb, hb0⟩ : ∃ z, z = wd.heap.size := ⟨_, rfl⟩
          have hbb : wd.heap.size ≤ bb := by rw [hb0]; exact hbb0
          rw [← hb0] at HB0 ⊢
          clear hv9 hb0 hbb0
          refine wpAnyH_step (i := 1) (by kernel_rfl) (fuel' := 6) (by kernel_rfl) (by simp only [pickOps, List.getElem?_toArray, List.getElem?_cons_zero, List.getElem?_cons_succ]; rfl) (by rfl) ?_
          intro K hK
          refine wp_call 28 #[.int .i64 7, .int .i64 4, .int .i64 30] (by go_simp; first | done | rfl) ?_
          refine (answer_any 7 4 30 _).mono ?_
          rintro r v6 ⟨rfl, g6⟩
          have S6 : Grew wd v6 := S0.trans g6
          refine ⟨_, rfl, hK _ _ S6 ?_⟩
          clear hK K
          simp only [Act.put, List.setIfInBounds_toArray, List.set_cons_zero, List.set_cons_succ]
          have HB6 := Lib.hid (g6.block HB0.out)
          refine wpAnyH_step (i := 2) (by kernel_rfl) (fuel' := 5) (by kernel_rfl) (by simp only [pickOps, List.getElem?_toArray, List.getElem?_cons_zero, List.getElem?_cons_succ]; rfl) (by rfl) ?_
          intro K hK
          refine wp_call 13 #[.agg #[.slice A3 n3 c3, .slice B3 m3 e3], .agg #[.int .i64 7, .int .i64 5, .int .i64 4, .int .i64 30, .int .i64 20]] (by go_simp; first | done | rfl) ?_
          refine (apply_val (HDL.out.grew (gwd.trans S6)) hE4 hD4).mono ?_
          rintro r v7 ⟨A8, n8, c8, B8, m8, e8, rfl, hd7, g7⟩
          have S7 : Grew wd v7 := S6.trans g7
          refine ⟨_, rfl, hK _ _ S7 ?_⟩
          clear hK K
          simp only [Act.put, List.setIfInBounds_toArray, List.set_cons_zero, List.set_cons_succ]
          have HB8' := Lib.hid (g7.block HB6.out)
          have HD8 := Lib.hid hd7
          obtain ⟨v8, hv8⟩ : ∃ y, y = v7 := ⟨_, rfl⟩
          rw [← hv8] at HB8' HD8 S7 ⊢
          have HB8 := HB8'
          have S8 := S7
          clear hd7 gZ g6 g7 S7 S6 HB0 HB6 S0 hv8 HB8'
          refine wpAnyH_takes (fun _ _ _ _ _ h => h) S8 [3, 4, 5] (fuel' := 2) (by kernel_rfl) (by kernel_rfl) (by simp only [pickOps, List.getElem?_toArray, List.getElem?_cons_zero, List.getElem?_cons_succ]; rfl) ?_
          repeat (first
            | (refine TakeP.pure (v := ?_) (by rfl) ?_ ?_; rotate_left; (intro w' g'; go_simp; first | done | with_reducible rfl); (simp only [Act.put, List.setIfInBounds_toArray, List.set_cons_zero, List.set_cons_succ])))
          refine TakeP.nil ?_
          refine wpAnyH_step (i := 7) (by kernel_rfl) (fuel' := 1) (by kernel_rfl) (by simp only [pickOps, List.getElem?_toArray, List.getElem?_cons_zero, List.getElem?_cons_succ]; rfl) (by rfl) ?_
          intro K hK
          refine wp_store_row 25 (.tmp 7) (.tmp 40) rfl bb #[.slice A8 n8 c8, .slice B8 m8 e8] rfl rfl 25 _ HB8.out size25 rfl (by simp [Value.oneCell']) ?_
          have S9 := grew_setRow S8 hbb #[.slice A8 n8 c8, .slice B8 m8 e8]
          refine hK _ _ S9 ?_
          clear hK K
          have HB9 := setRow_heap v8 bb _ #[.slice A8 n8 c8, .slice B8 m8 e8] 25 (0, 0) HB8.out
          have HD9 := desk_row HD8.out HB8.out #[.slice A8 n8 c8, .slice B8 m8 e8]
          refine wpAnyH_takes (fun _ _ _ _ _ h => h) S9 [8] (fuel' := 0) (by kernel_rfl) (by kernel_rfl) (by simp only [pickOps, List.getElem?_toArray, List.getElem?_cons_zero, List.getElem?_cons_succ]; rfl) ?_
          repeat (first
            | (refine TakeP.pure (v := ?_) (by rfl) ?_ ?_; rotate_left; (intro w' g'; go_simp; first | done | with_reducible rfl); (simp only [Act.put, List.setIfInBounds_toArray, List.set_cons_zero, List.set_cons_succ])))
          refine TakeP.nil ?_
          refine wpAnyH_done (by kernel_rfl) ?_ _
          have J := HJ.out ⟨A8, n8, c8, B8, m8, e8, bb⟩ _ ⟨Lib.hid HD9, Lib.hid (row_at HB9), gwd.trans S9⟩
          simp only [Act.put, List.setIfInBounds_toArray, List.set_cons_zero, List.set_cons_succ] at J
          exact J
      · rintro ⟨A4, n4, c4, B4, m4, e4, b4⟩ w4 ⟨HD4, HR4, g⟩
        simp only [Act.put, List.setIfInBounds_toArray, List.set_cons_zero, List.set_cons_succ]
        replace HD1 := Lib.hid (HD1.out.grew g)
        replace HR1 := Lib.hid (range_grew HR1.out g)
        replace HD2 := Lib.hid (HD2.out.grew g)
        replace HR2 := Lib.hid (range_grew HR2.out g)
        replace HD3 := Lib.hid (HD3.out.grew g)
        replace HR3 := Lib.hid (range_grew HR3.out g)
        replace gg := gg.trans g
        clear g
        skip
        go_wp2_with fail
        refine cut_region (X := DX) (by kernel_rfl) (fun wd w' => Grew wd w') (fun a x => (((((((a.put (some 43) (.agg #[.slice A3 n3 c3, .slice B3 m3 e3])).put (some 44) (.agg #[.int .i64 3, .int .i64 5, .int .i64 2, .int .i64 50, .int .i64 20])).put (some 45) (.tuple #[.agg #[.slice x.A x.n x.c, .slice x.B x.m x.e], .int .i64 401])).put (some 42) (.tuple #[.agg #[.slice x.A x.n x.c, .slice x.B x.m x.e], .int .i64 401])).put (some 46) (.agg #[.slice x.A x.n x.c, .slice x.B x.m x.e])).put (some 47) (.int .i64 401)).put (some 9) (.pointer (some ⟨x.b, 0, none⟩))).put (some 10) (.int .i64 401)) (fun x w' => Hid (DeskIs w' x.A x.n x.c x.B x.m x.e Dn) ∧ Hid (w'.rangeAt x.b 0 [.slice x.A x.n x.c, .slice x.B x.m x.e]) ∧ Grew w4 w') ?_ ?_
        rotate_left
        · intro wd gwd J0
          have HJ := Lib.hid J0
          have HDL := HD3
          obtain ⟨wl, hwl⟩ : ∃ y, y = w4 := ⟨_, rfl⟩
          rw [← hwl] at HJ HDL HR3 gwd
          have hC : ∀ w', Grew wd w' → w'.cell? ⟨b3, 0, none⟩ = some (.slice A3 n3 c3) ∧ w'.cell? ⟨b3, 1, none⟩ = some (.slice B3 m3 e3) := fun w' g' => by
            have h0 := range_grew HR3.out (gwd.trans g') 0 _ rfl
            have h1 := range_grew HR3.out (gwd.trans g') 1 _ rfl
            simp only [Nat.zero_add] at h0 h1
            exact ⟨h0, h1⟩
          clear hwl J0
          refine wpAnyH_takes (fun _ _ _ _ _ h => h) (Grew.refl _) [0] (fuel' := 8) (by kernel_rfl) (by kernel_rfl) (by simp only [pickOps, List.getElem?_toArray, List.getElem?_cons_zero]; rfl) ?_
          repeat (first
            | (refine TakeP.pure (v := ?_) (by rfl) ?_ ?_; rotate_left; (intro w' g'; obtain ⟨s0, s1⟩ := hC w' g'; go_simp; first | done | with_reducible rfl); (simp only [Act.put, List.setIfInBounds_toArray, List.set_cons_zero, List.set_cons_succ])))
          refine TakeP.nil ?_
          refine wpAnyH_two (i := 1) (j := 6) (by kernel_rfl) (fuel' := 7) (by kernel_rfl) (by simp only [pickOps, List.getElem?_toArray, List.getElem?_cons_zero, List.getElem?_cons_succ]; rfl) rfl (by simp only [pickOps, List.getElem?_toArray, List.getElem?_cons_zero, List.getElem?_cons_succ]; rfl) rfl ?_ ?_
          · intro K hK
            refine wp_call 28 #[.int .i64 3, .int .i64 2, .int .i64 50] (by go_simp; first | done | rfl) ?_
            refine (answer_any 3 2 50 _).mono ?_
            rintro r v6 ⟨rfl, g6⟩
            have S6 : Grew wd v6 := g6
            refine ⟨_, rfl, hK _ _ S6 ?_⟩
            clear hK K g6
            simp only [Act.put, List.setIfInBounds_toArray, List.set_cons_zero, List.set_cons_succ]
            refine wpAnyH_two (i := 2) (j := 6) (by kernel_rfl) (fuel' := 6) (by kernel_rfl) (by simp only [pickOps, List.getElem?_toArray, List.getElem?_cons_zero, List.getElem?_cons_succ]; rfl) rfl (by simp only [pickOps, List.getElem?_toArray, List.getElem?_cons_zero, List.getElem?_cons_succ]; rfl) rfl ?_ ?_
            · intro K hK
              refine wp_call 13 #[.agg #[.slice A3 n3 c3, .slice B3 m3 e3], .agg #[.int .i64 3, .int .i64 5, .int .i64 2, .int .i64 50, .int .i64 20]] (by go_simp; first | done | rfl) ?_
              refine (apply_val (HDL.out.grew (gwd.trans S6)) hE5 hD5).mono ?_
              rintro r v7 ⟨A8, n8, c8, B8, m8, e8, rfl, hd7, g7⟩
              have S7 : Grew wd v7 := S6.trans g7
              refine ⟨_, rfl, hK _ _ S7 ?_⟩
              clear hK K
              simp only [Act.put, List.setIfInBounds_toArray, List.set_cons_zero, List.set_cons_succ]
              refine wpAnyH_takes (fun _ _ _ _ _ h => h) S7 [3, 4, 5] (fuel' := 3) (by kernel_rfl) (by kernel_rfl) (by simp only [pickOps, List.getElem?_toArray, List.getElem?_cons_zero, List.getElem?_cons_succ]; rfl) ?_
              repeat (first
                | (refine TakeP.pure (v := ?_) (by rfl) ?_ ?_; rotate_left; (intro w' g'; go_simp; first | done | with_reducible rfl); (simp only [Act.put, List.setIfInBounds_toArray, List.set_cons_zero, List.set_cons_succ])))
              refine TakeP.nil ?_
              refine wpAnyH_step (i := 6) (by kernel_rfl) (fuel' := 2) (by kernel_rfl) (by simp only [pickOps, List.getElem?_toArray, List.getElem?_cons_zero, List.getElem?_cons_succ]; rfl) (by rfl) ?_
              intro K hK
              go_simp
              have S0 := S7.alloc (.cells #[.slice none 0 0, .slice none 0 0] 25)
              refine hK _ _ S0 ?_
              clear hK K
              obtain ⟨v8, hv8⟩ : ∃ y, y = v7.alloc (.cells #[.slice none 0 0, .slice none 0 0] 25) := ⟨_, rfl⟩
              have gZ : Grew v7 v8 := by rw [hv8]; exact (Grew.refl _).alloc _
              have HB0 : Hid (v8.heap[v7.heap.size]? = some (.cells #[.slice none 0 0, .slice none 0 0] 25)) := by unfold Hid; rw [hv8]; exact heap_alloc_new _ _
              have hbb0 := S7.le
              rw [← hv8] at S0 ⊢
              obtain ⟨bb, hb0⟩ : ∃ z, z = v7.heap.size := ⟨_, rfl⟩
              have hbb : wd.heap.size ≤ bb := by rw [hb0]; exact hbb0
              rw [← hb0] at HB0 ⊢
              clear hv8 hb0 hbb0
              have HB8 := HB0
              have HD8 := Lib.hid (hd7.grew gZ)
              have S8 := S0
              clear hd7 gZ g7 S7 S6 HB0 S0
              refine wpAnyH_step (i := 7) (by kernel_rfl) (fuel' := 1) (by kernel_rfl) (by simp only [pickOps, List.getElem?_toArray, List.getElem?_cons_zero, List.getElem?_cons_succ]; rfl) (by rfl) ?_
              intro K hK
              refine wp_store_row 25 (.tmp 9) (.tmp 46) rfl bb #[.slice A8 n8 c8, .slice B8 m8 e8] rfl rfl 25 _ HB8.out size25 rfl (by simp [Value.oneCell']) ?_
              have S9 := grew_setRow S8 hbb #[.slice A8 n8 c8, .slice B8 m8 e8]
              refine hK _ _ S9 ?_
              clear hK K
              have HB9 := setRow_heap v8 bb _ #[.slice A8 n8 c8, .slice B8 m8 e8] 25 (0, 0) HB8.out
              have HD9 := desk_row HD8.out HB8.out #[.slice A8 n8 c8, .slice B8 m8 e8]
              refine wpAnyH_takes (fun _ _ _ _ _ h => h) S9 [8] (fuel' := 0) (by kernel_rfl) (by kernel_rfl) (by simp only [pickOps, List.getElem?_toArray, List.getElem?_cons_zero, List.getElem?_cons_succ]; rfl) ?_
              repeat (first
                | (refine TakeP.pure (v := ?_) (by rfl) ?_ ?_; rotate_left; (intro w' g'; go_simp; first | done | with_reducible rfl); (simp only [Act.put, List.setIfInBounds_toArray, List.set_cons_zero, List.set_cons_succ])))
              refine TakeP.nil ?_
              refine wpAnyH_done (by kernel_rfl) ?_ _
              have J := HJ.out ⟨A8, n8, c8, B8, m8, e8, bb⟩ _ ⟨Lib.hid HD9, Lib.hid (row_at HB9), gwd.trans S9⟩
              simp only [Act.put, List.setIfInBounds_toArray, List.set_cons_zero, List.set_cons_succ] at J
              exact J
            · intro K hK
              go_simp
              have S0 := S6.alloc (.cells #[.slice none 0 0, .slice none 0 0] 25)
              refine hK _ _ S0 ?_
              clear hK K
              obtain ⟨v9, hv9⟩ : ∃ y, y = v6.alloc (.cells #[.slice none 0 0, .slice none 0 0] 25) := ⟨_, rfl⟩
              have gZ : Grew v6 v9 := by rw [hv9]; exact (Grew.refl _).alloc _
              have HB0 : Hid (v9.heap[v6.heap.size]? = some (.cells #[.slice none 0 0, .slice none 0 0] 25)) := by unfold Hid; rw [hv9]; exact heap_alloc_new _ _
              have hbb0 := S6.le
              rw [← hv9] at S0 ⊢
              obtain ⟨bb, hb0⟩ : ∃ z, z = v6.heap.size := ⟨_, rfl⟩
              have hbb : wd.heap.size ≤ bb := by rw [hb0]; exact hbb0
              rw [← hb0] at HB0 ⊢
              clear hv9 hb0 hbb0
              refine wpAnyH_step (i := 2) (by kernel_rfl) (fuel' := 5) (by kernel_rfl) (by simp only [pickOps, List.getElem?_toArray, List.getElem?_cons_zero, List.getElem?_cons_succ]; rfl) (by rfl) ?_
              intro K hK
              refine wp_call 13 #[.agg #[.slice A3 n3 c3, .slice B3 m3 e3], .agg #[.int .i64 3, .int .i64 5, .int .i64 2, .int .i64 50, .int .i64 20]] (by go_simp; first | done | rfl) ?_
              refine (apply_val (HDL.out.grew (gwd.trans S0)) hE5 hD5).mono ?_
              rintro r v7 ⟨A8, n8, c8, B8, m8, e8, rfl, hd7, g7⟩
              have S7 : Grew wd v7 := S0.trans g7
              refine ⟨_, rfl, hK _ _ S7 ?_⟩
              clear hK K
              simp only [Act.put, List.setIfInBounds_toArray, List.set_cons_zero, List.set_cons_succ]
              have HB8' := Lib.hid (g7.block HB0.out)
              have HD8 := Lib.hid hd7
              obtain ⟨v8, hv8⟩ : ∃ y, y = v7 := ⟨_, rfl⟩
              rw [← hv8] at HB8' HD8 S7 ⊢
              have HB8 := HB8'
              have S8 := S7
              clear hd7 gZ g7 S7 S6 HB0 S0 hv8 HB8'
              refine wpAnyH_takes (fun _ _ _ _ _ h => h) S8 [3, 4, 5] (fuel' := 2) (by kernel_rfl) (by kernel_rfl) (by simp only [pickOps, List.getElem?_toArray, List.getElem?_cons_zero, List.getElem?_cons_succ]; rfl) ?_
              repeat (first
                | (refine TakeP.pure (v := ?_) (by rfl) ?_ ?_; rotate_left; (intro w' g'; go_simp; first | done | with_reducible rfl); (simp only [Act.put, List.setIfInBounds_toArray, List.set_cons_zero, List.set_cons_succ])))
              refine TakeP.nil ?_
              refine wpAnyH_step (i := 7) (by kernel_rfl) (fuel' := 1) (by kernel_rfl) (by simp only [pickOps, List.getElem?_toArray, List.getElem?_cons_zero, List.getElem?_cons_succ]; rfl) (by rfl) ?_
              intro K hK
              refine wp_store_row 25 (.tmp 9) (.tmp 46) rfl bb #[.slice A8 n8 c8, .slice B8 m8 e8] rfl rfl 25 _ HB8.out size25 rfl (by simp [Value.oneCell']) ?_
              have S9 := grew_setRow S8 hbb #[.slice A8 n8 c8, .slice B8 m8 e8]
              refine hK _ _ S9 ?_
              clear hK K
              have HB9 := setRow_heap v8 bb _ #[.slice A8 n8 c8, .slice B8 m8 e8] 25 (0, 0) HB8.out
              have HD9 := desk_row HD8.out HB8.out #[.slice A8 n8 c8, .slice B8 m8 e8]
              refine wpAnyH_takes (fun _ _ _ _ _ h => h) S9 [8] (fuel' := 0) (by kernel_rfl) (by kernel_rfl) (by simp only [pickOps, List.getElem?_toArray, List.getElem?_cons_zero, List.getElem?_cons_succ]; rfl) ?_
              repeat (first
                | (refine TakeP.pure (v := ?_) (by rfl) ?_ ?_; rotate_left; (intro w' g'; go_simp; first | done | with_reducible rfl); (simp only [Act.put, List.setIfInBounds_toArray, List.set_cons_zero, List.set_cons_succ])))
              refine TakeP.nil ?_
              refine wpAnyH_done (by kernel_rfl) ?_ _
              have J := HJ.out ⟨A8, n8, c8, B8, m8, e8, bb⟩ _ ⟨Lib.hid HD9, Lib.hid (row_at HB9), gwd.trans S9⟩
              simp only [Act.put, List.setIfInBounds_toArray, List.set_cons_zero, List.set_cons_succ] at J
              exact J
          · intro K hK
            go_simp
            have S0 := (Grew.refl wd).alloc (.cells #[.slice none 0 0, .slice none 0 0] 25)
            refine hK _ _ S0 ?_
            clear hK K
            obtain ⟨v9, hv9⟩ : ∃ y, y = wd.alloc (.cells #[.slice none 0 0, .slice none 0 0] 25) := ⟨_, rfl⟩
            have gZ : Grew wd v9 := by rw [hv9]; exact (Grew.refl _).alloc _
            have HB0 : Hid (v9.heap[wd.heap.size]? = some (.cells #[.slice none 0 0, .slice none 0 0] 25)) := by unfold Hid; rw [hv9]; exact heap_alloc_new _ _
            have hbb0 := (Grew.refl wd).le
            rw [← hv9] at S0 ⊢
            obtain ⟨bb, hb0⟩ : ∃ z, z = wd.heap.size := ⟨_, rfl⟩
            have hbb : wd.heap.size ≤ bb := by rw [hb0]; exact hbb0
            rw [← hb0] at HB0 ⊢
            clear hv9 hb0 hbb0
            refine wpAnyH_step (i := 1) (by kernel_rfl) (fuel' := 6) (by kernel_rfl) (by simp only [pickOps, List.getElem?_toArray, List.getElem?_cons_zero, List.getElem?_cons_succ]; rfl) (by rfl) ?_
            intro K hK
            refine wp_call 28 #[.int .i64 3, .int .i64 2, .int .i64 50] (by go_simp; first | done | rfl) ?_
            refine (answer_any 3 2 50 _).mono ?_
            rintro r v6 ⟨rfl, g6⟩
            have S6 : Grew wd v6 := S0.trans g6
            refine ⟨_, rfl, hK _ _ S6 ?_⟩
            clear hK K
            simp only [Act.put, List.setIfInBounds_toArray, List.set_cons_zero, List.set_cons_succ]
            have HB6 := Lib.hid (g6.block HB0.out)
            refine wpAnyH_step (i := 2) (by kernel_rfl) (fuel' := 5) (by kernel_rfl) (by simp only [pickOps, List.getElem?_toArray, List.getElem?_cons_zero, List.getElem?_cons_succ]; rfl) (by rfl) ?_
            intro K hK
            refine wp_call 13 #[.agg #[.slice A3 n3 c3, .slice B3 m3 e3], .agg #[.int .i64 3, .int .i64 5, .int .i64 2, .int .i64 50, .int .i64 20]] (by go_simp; first | done | rfl) ?_
            refine (apply_val (HDL.out.grew (gwd.trans S6)) hE5 hD5).mono ?_
            rintro r v7 ⟨A8, n8, c8, B8, m8, e8, rfl, hd7, g7⟩
            have S7 : Grew wd v7 := S6.trans g7
            refine ⟨_, rfl, hK _ _ S7 ?_⟩
            clear hK K
            simp only [Act.put, List.setIfInBounds_toArray, List.set_cons_zero, List.set_cons_succ]
            have HB8' := Lib.hid (g7.block HB6.out)
            have HD8 := Lib.hid hd7
            obtain ⟨v8, hv8⟩ : ∃ y, y = v7 := ⟨_, rfl⟩
            rw [← hv8] at HB8' HD8 S7 ⊢
            have HB8 := HB8'
            have S8 := S7
            clear hd7 gZ g6 g7 S7 S6 HB0 HB6 S0 hv8 HB8'
            refine wpAnyH_takes (fun _ _ _ _ _ h => h) S8 [3, 4, 5] (fuel' := 2) (by kernel_rfl) (by kernel_rfl) (by simp only [pickOps, List.getElem?_toArray, List.getElem?_cons_zero, List.getElem?_cons_succ]; rfl) ?_
            repeat (first
              | (refine TakeP.pure (v := ?_) (by rfl) ?_ ?_; rotate_left; (intro w' g'; go_simp; first | done | with_reducible rfl); (simp only [Act.put, List.setIfInBounds_toArray, List.set_cons_zero, List.set_cons_succ])))
            refine TakeP.nil ?_
            refine wpAnyH_step (i := 7) (by kernel_rfl) (fuel' := 1) (by kernel_rfl) (by simp only [pickOps, List.getElem?_toArray, List.getElem?_cons_zero, List.getElem?_cons_succ]; rfl) (by rfl) ?_
            intro K hK
            refine wp_store_row 25 (.tmp 9) (.tmp 46) rfl bb #[.slice A8 n8 c8, .slice B8 m8 e8] rfl rfl 25 _ HB8.out size25 rfl (by simp [Value.oneCell']) ?_
            have S9 := grew_setRow S8 hbb #[.slice A8 n8 c8, .slice B8 m8 e8]
            refine hK _ _ S9 ?_
            clear hK K
            have HB9 := setRow_heap v8 bb _ #[.slice A8 n8 c8, .slice B8 m8 e8] 25 (0, 0) HB8.out
            have HD9 := desk_row HD8.out HB8.out #[.slice A8 n8 c8, .slice B8 m8 e8]
            refine wpAnyH_takes (fun _ _ _ _ _ h => h) S9 [8] (fuel' := 0) (by kernel_rfl) (by kernel_rfl) (by simp only [pickOps, List.getElem?_toArray, List.getElem?_cons_zero, List.getElem?_cons_succ]; rfl) ?_
            repeat (first
              | (refine TakeP.pure (v := ?_) (by rfl) ?_ ?_; rotate_left; (intro w' g'; go_simp; first | done | with_reducible rfl); (simp only [Act.put, List.setIfInBounds_toArray, List.set_cons_zero, List.set_cons_succ])))
            refine TakeP.nil ?_
            refine wpAnyH_done (by kernel_rfl) ?_ _
            have J := HJ.out ⟨A8, n8, c8, B8, m8, e8, bb⟩ _ ⟨Lib.hid HD9, Lib.hid (row_at HB9), gwd.trans S9⟩
            simp only [Act.put, List.setIfInBounds_toArray, List.set_cons_zero, List.set_cons_succ] at J
            exact J
        · rintro ⟨A5, n5, c5, B5, m5, e5, b5⟩ w5 ⟨HD5, HR5, g⟩
          simp only [Act.put, List.setIfInBounds_toArray, List.set_cons_zero, List.set_cons_succ]
          replace HD1 := Lib.hid (HD1.out.grew g)
          replace HR1 := Lib.hid (range_grew HR1.out g)
          replace HD2 := Lib.hid (HD2.out.grew g)
          replace HR2 := Lib.hid (range_grew HR2.out g)
          replace HD3 := Lib.hid (HD3.out.grew g)
          replace HR3 := Lib.hid (range_grew HR3.out g)
          replace HD4 := Lib.hid (HD4.out.grew g)
          replace HR4 := Lib.hid (range_grew HR4.out g)
          replace gg := gg.trans g
          clear g
          skip
          go_wp2_with fail
          refine cut_region (X := DX) (by kernel_rfl) (fun wd w' => Grew wd w') (fun a x => (((((((a.put (some 49) (.agg #[.slice A3 n3 c3, .slice B3 m3 e3])).put (some 50) (.agg #[.int .i64 2, .int .i64 5, .int .i64 2, .int .i64 61, .int .i64 20])).put (some 51) (.tuple #[.agg #[.slice x.A x.n x.c, .slice x.B x.m x.e], .int .i64 5])).put (some 48) (.tuple #[.agg #[.slice x.A x.n x.c, .slice x.B x.m x.e], .int .i64 5])).put (some 52) (.agg #[.slice x.A x.n x.c, .slice x.B x.m x.e])).put (some 53) (.int .i64 5)).put (some 11) (.pointer (some ⟨x.b, 0, none⟩))).put (some 12) (.int .i64 5)) (fun x w' => Hid (DeskIs w' x.A x.n x.c x.B x.m x.e Dn) ∧ Hid (w'.rangeAt x.b 0 [.slice x.A x.n x.c, .slice x.B x.m x.e]) ∧ Grew w5 w') ?_ ?_
          rotate_left
          · intro wd gwd J0
            have HJ := Lib.hid J0
            have HDL := HD3
            obtain ⟨wl, hwl⟩ : ∃ y, y = w5 := ⟨_, rfl⟩
            rw [← hwl] at HJ HDL HR3 gwd
            have hC : ∀ w', Grew wd w' → w'.cell? ⟨b3, 0, none⟩ = some (.slice A3 n3 c3) ∧ w'.cell? ⟨b3, 1, none⟩ = some (.slice B3 m3 e3) := fun w' g' => by
              have h0 := range_grew HR3.out (gwd.trans g') 0 _ rfl
              have h1 := range_grew HR3.out (gwd.trans g') 1 _ rfl
              simp only [Nat.zero_add] at h0 h1
              exact ⟨h0, h1⟩
            clear hwl J0
            refine wpAnyH_takes (fun _ _ _ _ _ h => h) (Grew.refl _) [0] (fuel' := 8) (by kernel_rfl) (by kernel_rfl) (by simp only [pickOps, List.getElem?_toArray, List.getElem?_cons_zero]; rfl) ?_
            repeat (first
              | (refine TakeP.pure (v := ?_) (by rfl) ?_ ?_; rotate_left; (intro w' g'; obtain ⟨s0, s1⟩ := hC w' g'; go_simp; first | done | with_reducible rfl); (simp only [Act.put, List.setIfInBounds_toArray, List.set_cons_zero, List.set_cons_succ])))
            refine TakeP.nil ?_
            refine wpAnyH_two (i := 1) (j := 6) (by kernel_rfl) (fuel' := 7) (by kernel_rfl) (by simp only [pickOps, List.getElem?_toArray, List.getElem?_cons_zero, List.getElem?_cons_succ]; rfl) rfl (by simp only [pickOps, List.getElem?_toArray, List.getElem?_cons_zero, List.getElem?_cons_succ]; rfl) rfl ?_ ?_
            · intro K hK
              refine wp_call 28 #[.int .i64 2, .int .i64 2, .int .i64 61] (by go_simp; first | done | rfl) ?_
              refine (answer_any 2 2 61 _).mono ?_
              rintro r v6 ⟨rfl, g6⟩
              have S6 : Grew wd v6 := g6
              refine ⟨_, rfl, hK _ _ S6 ?_⟩
              clear hK K g6
              simp only [Act.put, List.setIfInBounds_toArray, List.set_cons_zero, List.set_cons_succ]
              refine wpAnyH_two (i := 2) (j := 6) (by kernel_rfl) (fuel' := 6) (by kernel_rfl) (by simp only [pickOps, List.getElem?_toArray, List.getElem?_cons_zero, List.getElem?_cons_succ]; rfl) rfl (by simp only [pickOps, List.getElem?_toArray, List.getElem?_cons_zero, List.getElem?_cons_succ]; rfl) rfl ?_ ?_
              · intro K hK
                refine wp_call 13 #[.agg #[.slice A3 n3 c3, .slice B3 m3 e3], .agg #[.int .i64 2, .int .i64 5, .int .i64 2, .int .i64 61, .int .i64 20]] (by go_simp; first | done | rfl) ?_
                refine (apply_val (HDL.out.grew (gwd.trans S6)) hE6 hD6).mono ?_
                rintro r v7 ⟨A8, n8, c8, B8, m8, e8, rfl, hd7, g7⟩
                have S7 : Grew wd v7 := S6.trans g7
                refine ⟨_, rfl, hK _ _ S7 ?_⟩
                clear hK K
                simp only [Act.put, List.setIfInBounds_toArray, List.set_cons_zero, List.set_cons_succ]
                refine wpAnyH_takes (fun _ _ _ _ _ h => h) S7 [3, 4, 5] (fuel' := 3) (by kernel_rfl) (by kernel_rfl) (by simp only [pickOps, List.getElem?_toArray, List.getElem?_cons_zero, List.getElem?_cons_succ]; rfl) ?_
                repeat (first
                  | (refine TakeP.pure (v := ?_) (by rfl) ?_ ?_; rotate_left; (intro w' g'; go_simp; first | done | with_reducible rfl); (simp only [Act.put, List.setIfInBounds_toArray, List.set_cons_zero, List.set_cons_succ])))
                refine TakeP.nil ?_
                refine wpAnyH_step (i := 6) (by kernel_rfl) (fuel' := 2) (by kernel_rfl) (by simp only [pickOps, List.getElem?_toArray, List.getElem?_cons_zero, List.getElem?_cons_succ]; rfl) (by rfl) ?_
                intro K hK
                go_simp
                have S0 := S7.alloc (.cells #[.slice none 0 0, .slice none 0 0] 25)
                refine hK _ _ S0 ?_
                clear hK K
                obtain ⟨v8, hv8⟩ : ∃ y, y = v7.alloc (.cells #[.slice none 0 0, .slice none 0 0] 25) := ⟨_, rfl⟩
                have gZ : Grew v7 v8 := by rw [hv8]; exact (Grew.refl _).alloc _
                have HB0 : Hid (v8.heap[v7.heap.size]? = some (.cells #[.slice none 0 0, .slice none 0 0] 25)) := by unfold Hid; rw [hv8]; exact heap_alloc_new _ _
                have hbb0 := S7.le
                rw [← hv8] at S0 ⊢
                obtain ⟨bb, hb0⟩ : ∃ z, z = v7.heap.size := ⟨_, rfl⟩
                have hbb : wd.heap.size ≤ bb := by rw [hb0]; exact hbb0
                rw [← hb0] at HB0 ⊢
                clear hv8 hb0 hbb0
                have HB8 := HB0
                have HD8 := Lib.hid (hd7.grew gZ)
                have S8 := S0
                clear hd7 gZ g7 S7 S6 HB0 S0
                refine wpAnyH_step (i := 7) (by kernel_rfl) (fuel' := 1) (by kernel_rfl) (by simp only [pickOps, List.getElem?_toArray, List.getElem?_cons_zero, List.getElem?_cons_succ]; rfl) (by rfl) ?_
                intro K hK
                refine wp_store_row 25 (.tmp 11) (.tmp 52) rfl bb #[.slice A8 n8 c8, .slice B8 m8 e8] rfl rfl 25 _ HB8.out size25 rfl (by simp [Value.oneCell']) ?_
                have S9 := grew_setRow S8 hbb #[.slice A8 n8 c8, .slice B8 m8 e8]
                refine hK _ _ S9 ?_
                clear hK K
                have HB9 := setRow_heap v8 bb _ #[.slice A8 n8 c8, .slice B8 m8 e8] 25 (0, 0) HB8.out
                have HD9 := desk_row HD8.out HB8.out #[.slice A8 n8 c8, .slice B8 m8 e8]
                refine wpAnyH_takes (fun _ _ _ _ _ h => h) S9 [8] (fuel' := 0) (by kernel_rfl) (by kernel_rfl) (by simp only [pickOps, List.getElem?_toArray, List.getElem?_cons_zero, List.getElem?_cons_succ]; rfl) ?_
                repeat (first
                  | (refine TakeP.pure (v := ?_) (by rfl) ?_ ?_; rotate_left; (intro w' g'; go_simp; first | done | with_reducible rfl); (simp only [Act.put, List.setIfInBounds_toArray, List.set_cons_zero, List.set_cons_succ])))
                refine TakeP.nil ?_
                refine wpAnyH_done (by kernel_rfl) ?_ _
                have J := HJ.out ⟨A8, n8, c8, B8, m8, e8, bb⟩ _ ⟨Lib.hid HD9, Lib.hid (row_at HB9), gwd.trans S9⟩
                simp only [Act.put, List.setIfInBounds_toArray, List.set_cons_zero, List.set_cons_succ] at J
                exact J
              · intro K hK
                go_simp
                have S0 := S6.alloc (.cells #[.slice none 0 0, .slice none 0 0] 25)
                refine hK _ _ S0 ?_
                clear hK K
                obtain ⟨v9, hv9⟩ : ∃ y, y = v6.alloc (.cells #[.slice none 0 0, .slice none 0 0] 25) := ⟨_, rfl⟩
                have gZ : Grew v6 v9 := by rw [hv9]; exact (Grew.refl _).alloc _
                have HB0 : Hid (v9.heap[v6.heap.size]? = some (.cells #[.slice none 0 0, .slice none 0 0] 25)) := by unfold Hid; rw [hv9]; exact heap_alloc_new _ _
                have hbb0 := S6.le
                rw [← hv9] at S0 ⊢
                obtain ⟨bb, hb0⟩ : ∃ z, z = v6.heap.size := ⟨_, rfl⟩
                have hbb : wd.heap.size ≤ bb := by rw [hb0]; exact hbb0
                rw [← hb0] at HB0 ⊢
                clear hv9 hb0 hbb0
                refine wpAnyH_step (i := 2) (by kernel_rfl) (fuel' := 5) (by kernel_rfl) (by simp only [pickOps, List.getElem?_toArray, List.getElem?_cons_zero, List.getElem?_cons_succ]; rfl) (by rfl) ?_
                intro K hK
                refine wp_call 13 #[.agg #[.slice A3 n3 c3, .slice B3 m3 e3], .agg #[.int .i64 2, .int .i64 5, .int .i64 2, .int .i64 61, .int .i64 20]] (by go_simp; first | done | rfl) ?_
                refine (apply_val (HDL.out.grew (gwd.trans S0)) hE6 hD6).mono ?_
                rintro r v7 ⟨A8, n8, c8, B8, m8, e8, rfl, hd7, g7⟩
                have S7 : Grew wd v7 := S0.trans g7
                refine ⟨_, rfl, hK _ _ S7 ?_⟩
                clear hK K
                simp only [Act.put, List.setIfInBounds_toArray, List.set_cons_zero, List.set_cons_succ]
                have HB8' := Lib.hid (g7.block HB0.out)
                have HD8 := Lib.hid hd7
                obtain ⟨v8, hv8⟩ : ∃ y, y = v7 := ⟨_, rfl⟩
                rw [← hv8] at HB8' HD8 S7 ⊢
                have HB8 := HB8'
                have S8 := S7
                clear hd7 gZ g7 S7 S6 HB0 S0 hv8 HB8'
                refine wpAnyH_takes (fun _ _ _ _ _ h => h) S8 [3, 4, 5] (fuel' := 2) (by kernel_rfl) (by kernel_rfl) (by simp only [pickOps, List.getElem?_toArray, List.getElem?_cons_zero, List.getElem?_cons_succ]; rfl) ?_
                repeat (first
                  | (refine TakeP.pure (v := ?_) (by rfl) ?_ ?_; rotate_left; (intro w' g'; go_simp; first | done | with_reducible rfl); (simp only [Act.put, List.setIfInBounds_toArray, List.set_cons_zero, List.set_cons_succ])))
                refine TakeP.nil ?_
                refine wpAnyH_step (i := 7) (by kernel_rfl) (fuel' := 1) (by kernel_rfl) (by simp only [pickOps, List.getElem?_toArray, List.getElem?_cons_zero, List.getElem?_cons_succ]; rfl) (by rfl) ?_
                intro K hK
                refine wp_store_row 25 (.tmp 11) (.tmp 52) rfl bb #[.slice A8 n8 c8, .slice B8 m8 e8] rfl rfl 25 _ HB8.out size25 rfl (by simp [Value.oneCell']) ?_
                have S9 := grew_setRow S8 hbb #[.slice A8 n8 c8, .slice B8 m8 e8]
                refine hK _ _ S9 ?_
                clear hK K
                have HB9 := setRow_heap v8 bb _ #[.slice A8 n8 c8, .slice B8 m8 e8] 25 (0, 0) HB8.out
                have HD9 := desk_row HD8.out HB8.out #[.slice A8 n8 c8, .slice B8 m8 e8]
                refine wpAnyH_takes (fun _ _ _ _ _ h => h) S9 [8] (fuel' := 0) (by kernel_rfl) (by kernel_rfl) (by simp only [pickOps, List.getElem?_toArray, List.getElem?_cons_zero, List.getElem?_cons_succ]; rfl) ?_
                repeat (first
                  | (refine TakeP.pure (v := ?_) (by rfl) ?_ ?_; rotate_left; (intro w' g'; go_simp; first | done | with_reducible rfl); (simp only [Act.put, List.setIfInBounds_toArray, List.set_cons_zero, List.set_cons_succ])))
                refine TakeP.nil ?_
                refine wpAnyH_done (by kernel_rfl) ?_ _
                have J := HJ.out ⟨A8, n8, c8, B8, m8, e8, bb⟩ _ ⟨Lib.hid HD9, Lib.hid (row_at HB9), gwd.trans S9⟩
                simp only [Act.put, List.setIfInBounds_toArray, List.set_cons_zero, List.set_cons_succ] at J
                exact J
            · intro K hK
              go_simp
              have S0 := (Grew.refl wd).alloc (.cells #[.slice none 0 0, .slice none 0 0] 25)
              refine hK _ _ S0 ?_
              clear hK K
              obtain ⟨v9, hv9⟩ : ∃ y, y = wd.alloc (.cells #[.slice none 0 0, .slice none 0 0] 25) := ⟨_, rfl⟩
              have gZ : Grew wd v9 := by rw [hv9]; exact (Grew.refl _).alloc _
              have HB0 : Hid (v9.heap[wd.heap.size]? = some (.cells #[.slice none 0 0, .slice none 0 0] 25)) := by unfold Hid; rw [hv9]; exact heap_alloc_new _ _
              have hbb0 := (Grew.refl wd).le
              rw [← hv9] at S0 ⊢
              obtain ⟨bb, hb0⟩ : ∃ z, z = wd.heap.size := ⟨_, rfl⟩
              have hbb : wd.heap.size ≤ bb := by rw [hb0]; exact hbb0
              rw [← hb0] at HB0 ⊢
              clear hv9 hb0 hbb0
              refine wpAnyH_step (i := 1) (by kernel_rfl) (fuel' := 6) (by kernel_rfl) (by simp only [pickOps, List.getElem?_toArray, List.getElem?_cons_zero, List.getElem?_cons_succ]; rfl) (by rfl) ?_
              intro K hK
              refine wp_call 28 #[.int .i64 2, .int .i64 2, .int .i64 61] (by go_simp; first | done | rfl) ?_
              refine (answer_any 2 2 61 _).mono ?_
              rintro r v6 ⟨rfl, g6⟩
              have S6 : Grew wd v6 := S0.trans g6
              refine ⟨_, rfl, hK _ _ S6 ?_⟩
              clear hK K
              simp only [Act.put, List.setIfInBounds_toArray, List.set_cons_zero, List.set_cons_succ]
              have HB6 := Lib.hid (g6.block HB0.out)
              refine wpAnyH_step (i := 2) (by kernel_rfl) (fuel' := 5) (by kernel_rfl) (by simp only [pickOps, List.getElem?_toArray, List.getElem?_cons_zero, List.getElem?_cons_succ]; rfl) (by rfl) ?_
              intro K hK
              refine wp_call 13 #[.agg #[.slice A3 n3 c3, .slice B3 m3 e3], .agg #[.int .i64 2, .int .i64 5, .int .i64 2, .int .i64 61, .int .i64 20]] (by go_simp; first | done | rfl) ?_
              refine (apply_val (HDL.out.grew (gwd.trans S6)) hE6 hD6).mono ?_
              rintro r v7 ⟨A8, n8, c8, B8, m8, e8, rfl, hd7, g7⟩
              have S7 : Grew wd v7 := S6.trans g7
              refine ⟨_, rfl, hK _ _ S7 ?_⟩
              clear hK K
              simp only [Act.put, List.setIfInBounds_toArray, List.set_cons_zero, List.set_cons_succ]
              have HB8' := Lib.hid (g7.block HB6.out)
              have HD8 := Lib.hid hd7
              obtain ⟨v8, hv8⟩ : ∃ y, y = v7 := ⟨_, rfl⟩
              rw [← hv8] at HB8' HD8 S7 ⊢
              have HB8 := HB8'
              have S8 := S7
              clear hd7 gZ g6 g7 S7 S6 HB0 HB6 S0 hv8 HB8'
              refine wpAnyH_takes (fun _ _ _ _ _ h => h) S8 [3, 4, 5] (fuel' := 2) (by kernel_rfl) (by kernel_rfl) (by simp only [pickOps, List.getElem?_toArray, List.getElem?_cons_zero, List.getElem?_cons_succ]; rfl) ?_
              repeat (first
                | (refine TakeP.pure (v := ?_) (by rfl) ?_ ?_; rotate_left; (intro w' g'; go_simp; first | done | with_reducible rfl); (simp only [Act.put, List.setIfInBounds_toArray, List.set_cons_zero, List.set_cons_succ])))
              refine TakeP.nil ?_
              refine wpAnyH_step (i := 7) (by kernel_rfl) (fuel' := 1) (by kernel_rfl) (by simp only [pickOps, List.getElem?_toArray, List.getElem?_cons_zero, List.getElem?_cons_succ]; rfl) (by rfl) ?_
              intro K hK
              refine wp_store_row 25 (.tmp 11) (.tmp 52) rfl bb #[.slice A8 n8 c8, .slice B8 m8 e8] rfl rfl 25 _ HB8.out size25 rfl (by simp [Value.oneCell']) ?_
              have S9 := grew_setRow S8 hbb #[.slice A8 n8 c8, .slice B8 m8 e8]
              refine hK _ _ S9 ?_
              clear hK K
              have HB9 := setRow_heap v8 bb _ #[.slice A8 n8 c8, .slice B8 m8 e8] 25 (0, 0) HB8.out
              have HD9 := desk_row HD8.out HB8.out #[.slice A8 n8 c8, .slice B8 m8 e8]
              refine wpAnyH_takes (fun _ _ _ _ _ h => h) S9 [8] (fuel' := 0) (by kernel_rfl) (by kernel_rfl) (by simp only [pickOps, List.getElem?_toArray, List.getElem?_cons_zero, List.getElem?_cons_succ]; rfl) ?_
              repeat (first
                | (refine TakeP.pure (v := ?_) (by rfl) ?_ ?_; rotate_left; (intro w' g'; go_simp; first | done | with_reducible rfl); (simp only [Act.put, List.setIfInBounds_toArray, List.set_cons_zero, List.set_cons_succ])))
              refine TakeP.nil ?_
              refine wpAnyH_done (by kernel_rfl) ?_ _
              have J := HJ.out ⟨A8, n8, c8, B8, m8, e8, bb⟩ _ ⟨Lib.hid HD9, Lib.hid (row_at HB9), gwd.trans S9⟩
              simp only [Act.put, List.setIfInBounds_toArray, List.set_cons_zero, List.set_cons_succ] at J
              exact J
          · rintro ⟨A6, n6, c6, B6, m6, e6, b6⟩ w6 ⟨HD6, HR6, g⟩
            simp only [Act.put, List.setIfInBounds_toArray, List.set_cons_zero, List.set_cons_succ]
            replace HD1 := Lib.hid (HD1.out.grew g)
            replace HR1 := Lib.hid (range_grew HR1.out g)
            replace HD2 := Lib.hid (HD2.out.grew g)
            replace HR2 := Lib.hid (range_grew HR2.out g)
            replace HD3 := Lib.hid (HD3.out.grew g)
            replace HR3 := Lib.hid (range_grew HR3.out g)
            replace HD4 := Lib.hid (HD4.out.grew g)
            replace HR4 := Lib.hid (range_grew HR4.out g)
            replace gg := gg.trans g
            clear g
            skip
            go_wp2_with fail
            refine cut_region (X := DX) (by kernel_rfl) (fun wd w' => Grew wd w') (fun a x => (((((((a.put (some 55) (.agg #[.slice A3 n3 c3, .slice B3 m3 e3])).put (some 56) (.agg #[.int .i64 2, .int .i64 5, .int .i64 2, .int .i64 60, .int .i64 20])).put (some 57) (.tuple #[.agg #[.slice x.A x.n x.c, .slice x.B x.m x.e], .int .i64 0])).put (some 54) (.tuple #[.agg #[.slice x.A x.n x.c, .slice x.B x.m x.e], .int .i64 0])).put (some 58) (.agg #[.slice x.A x.n x.c, .slice x.B x.m x.e])).put (some 59) (.int .i64 0)).put (some 13) (.pointer (some ⟨x.b, 0, none⟩))).put (some 14) (.int .i64 0)) (fun x w' => Hid (DeskIs w' x.A x.n x.c x.B x.m x.e D3) ∧ Hid (w'.rangeAt x.b 0 [.slice x.A x.n x.c, .slice x.B x.m x.e]) ∧ Grew w6 w') ?_ ?_
            rotate_left
            · intro wd gwd J0
              have HJ := Lib.hid J0
              have HDL := HD3
              obtain ⟨wl, hwl⟩ : ∃ y, y = w6 := ⟨_, rfl⟩
              rw [← hwl] at HJ HDL HR3 gwd
              have hC : ∀ w', Grew wd w' → w'.cell? ⟨b3, 0, none⟩ = some (.slice A3 n3 c3) ∧ w'.cell? ⟨b3, 1, none⟩ = some (.slice B3 m3 e3) := fun w' g' => by
                have h0 := range_grew HR3.out (gwd.trans g') 0 _ rfl
                have h1 := range_grew HR3.out (gwd.trans g') 1 _ rfl
                simp only [Nat.zero_add] at h0 h1
                exact ⟨h0, h1⟩
              clear hwl J0
              refine wpAnyH_takes (fun _ _ _ _ _ h => h) (Grew.refl _) [0] (fuel' := 8) (by kernel_rfl) (by kernel_rfl) (by simp only [pickOps, List.getElem?_toArray, List.getElem?_cons_zero]; rfl) ?_
              repeat (first
                | (refine TakeP.pure (v := ?_) (by rfl) ?_ ?_; rotate_left; (intro w' g'; obtain ⟨s0, s1⟩ := hC w' g'; go_simp; first | done | with_reducible rfl); (simp only [Act.put, List.setIfInBounds_toArray, List.set_cons_zero, List.set_cons_succ])))
              refine TakeP.nil ?_
              refine wpAnyH_two (i := 1) (j := 6) (by kernel_rfl) (fuel' := 7) (by kernel_rfl) (by simp only [pickOps, List.getElem?_toArray, List.getElem?_cons_zero, List.getElem?_cons_succ]; rfl) rfl (by simp only [pickOps, List.getElem?_toArray, List.getElem?_cons_zero, List.getElem?_cons_succ]; rfl) rfl ?_ ?_
              · intro K hK
                refine wp_call 28 #[.int .i64 2, .int .i64 2, .int .i64 60] (by go_simp; first | done | rfl) ?_
                refine (answer_any 2 2 60 _).mono ?_
                rintro r v6 ⟨rfl, g6⟩
                have S6 : Grew wd v6 := g6
                refine ⟨_, rfl, hK _ _ S6 ?_⟩
                clear hK K g6
                simp only [Act.put, List.setIfInBounds_toArray, List.set_cons_zero, List.set_cons_succ]
                refine wpAnyH_two (i := 2) (j := 6) (by kernel_rfl) (fuel' := 6) (by kernel_rfl) (by simp only [pickOps, List.getElem?_toArray, List.getElem?_cons_zero, List.getElem?_cons_succ]; rfl) rfl (by simp only [pickOps, List.getElem?_toArray, List.getElem?_cons_zero, List.getElem?_cons_succ]; rfl) rfl ?_ ?_
                · intro K hK
                  refine wp_call 13 #[.agg #[.slice A3 n3 c3, .slice B3 m3 e3], .agg #[.int .i64 2, .int .i64 5, .int .i64 2, .int .i64 60, .int .i64 20]] (by go_simp; first | done | rfl) ?_
                  refine (apply_val (HDL.out.grew (gwd.trans S6)) hE7 hD7).mono ?_
                  rintro r v7 ⟨A8, n8, c8, B8, m8, e8, rfl, hd7, g7⟩
                  have S7 : Grew wd v7 := S6.trans g7
                  refine ⟨_, rfl, hK _ _ S7 ?_⟩
                  clear hK K
                  simp only [Act.put, List.setIfInBounds_toArray, List.set_cons_zero, List.set_cons_succ]
                  refine wpAnyH_takes (fun _ _ _ _ _ h => h) S7 [3, 4, 5] (fuel' := 3) (by kernel_rfl) (by kernel_rfl) (by simp only [pickOps, List.getElem?_toArray, List.getElem?_cons_zero, List.getElem?_cons_succ]; rfl) ?_
                  repeat (first
                    | (refine TakeP.pure (v := ?_) (by rfl) ?_ ?_; rotate_left; (intro w' g'; go_simp; first | done | with_reducible rfl); (simp only [Act.put, List.setIfInBounds_toArray, List.set_cons_zero, List.set_cons_succ])))
                  refine TakeP.nil ?_
                  refine wpAnyH_step (i := 6) (by kernel_rfl) (fuel' := 2) (by kernel_rfl) (by simp only [pickOps, List.getElem?_toArray, List.getElem?_cons_zero, List.getElem?_cons_succ]; rfl) (by rfl) ?_
                  intro K hK
                  go_simp
                  have S0 := S7.alloc (.cells #[.slice none 0 0, .slice none 0 0] 25)
                  refine hK _ _ S0 ?_
                  clear hK K
                  obtain ⟨v8, hv8⟩ : ∃ y, y = v7.alloc (.cells #[.slice none 0 0, .slice none 0 0] 25) := ⟨_, rfl⟩
                  have gZ : Grew v7 v8 := by rw [hv8]; exact (Grew.refl _).alloc _
                  have HB0 : Hid (v8.heap[v7.heap.size]? = some (.cells #[.slice none 0 0, .slice none 0 0] 25)) := by unfold Hid; rw [hv8]; exact heap_alloc_new _ _
                  have hbb0 := S7.le
                  rw [← hv8] at S0 ⊢
                  obtain ⟨bb, hb0⟩ : ∃ z, z = v7.heap.size := ⟨_, rfl⟩
                  have hbb : wd.heap.size ≤ bb := by rw [hb0]; exact hbb0
                  rw [← hb0] at HB0 ⊢
                  clear hv8 hb0 hbb0
                  have HB8 := HB0
                  have HD8 := Lib.hid (hd7.grew gZ)
                  have S8 := S0
                  clear hd7 gZ g7 S7 S6 HB0 S0
                  refine wpAnyH_step (i := 7) (by kernel_rfl) (fuel' := 1) (by kernel_rfl) (by simp only [pickOps, List.getElem?_toArray, List.getElem?_cons_zero, List.getElem?_cons_succ]; rfl) (by rfl) ?_
                  intro K hK
                  refine wp_store_row 25 (.tmp 13) (.tmp 58) rfl bb #[.slice A8 n8 c8, .slice B8 m8 e8] rfl rfl 25 _ HB8.out size25 rfl (by simp [Value.oneCell']) ?_
                  have S9 := grew_setRow S8 hbb #[.slice A8 n8 c8, .slice B8 m8 e8]
                  refine hK _ _ S9 ?_
                  clear hK K
                  have HB9 := setRow_heap v8 bb _ #[.slice A8 n8 c8, .slice B8 m8 e8] 25 (0, 0) HB8.out
                  have HD9 := desk_row HD8.out HB8.out #[.slice A8 n8 c8, .slice B8 m8 e8]
                  refine wpAnyH_takes (fun _ _ _ _ _ h => h) S9 [8] (fuel' := 0) (by kernel_rfl) (by kernel_rfl) (by simp only [pickOps, List.getElem?_toArray, List.getElem?_cons_zero, List.getElem?_cons_succ]; rfl) ?_
                  repeat (first
                    | (refine TakeP.pure (v := ?_) (by rfl) ?_ ?_; rotate_left; (intro w' g'; go_simp; first | done | with_reducible rfl); (simp only [Act.put, List.setIfInBounds_toArray, List.set_cons_zero, List.set_cons_succ])))
                  refine TakeP.nil ?_
                  refine wpAnyH_done (by kernel_rfl) ?_ _
                  have J := HJ.out ⟨A8, n8, c8, B8, m8, e8, bb⟩ _ ⟨Lib.hid HD9, Lib.hid (row_at HB9), gwd.trans S9⟩
                  simp only [Act.put, List.setIfInBounds_toArray, List.set_cons_zero, List.set_cons_succ] at J
                  exact J
                · intro K hK
                  go_simp
                  have S0 := S6.alloc (.cells #[.slice none 0 0, .slice none 0 0] 25)
                  refine hK _ _ S0 ?_
                  clear hK K
                  obtain ⟨v9, hv9⟩ : ∃ y, y = v6.alloc (.cells #[.slice none 0 0, .slice none 0 0] 25) := ⟨_, rfl⟩
                  have gZ : Grew v6 v9 := by rw [hv9]; exact (Grew.refl _).alloc _
                  have HB0 : Hid (v9.heap[v6.heap.size]? = some (.cells #[.slice none 0 0, .slice none 0 0] 25)) := by unfold Hid; rw [hv9]; exact heap_alloc_new _ _
                  have hbb0 := S6.le
                  rw [← hv9] at S0 ⊢
                  obtain ⟨bb, hb0⟩ : ∃ z, z = v6.heap.size := ⟨_, rfl⟩
                  have hbb : wd.heap.size ≤ bb := by rw [hb0]; exact hbb0
                  rw [← hb0] at HB0 ⊢
                  clear hv9 hb0 hbb0
                  refine wpAnyH_step (i := 2) (by kernel_rfl) (fuel' := 5) (by kernel_rfl) (by simp only [pickOps, List.getElem?_toArray, List.getElem?_cons_zero, List.getElem?_cons_succ]; rfl) (by rfl) ?_
                  intro K hK
                  refine wp_call 13 #[.agg #[.slice A3 n3 c3, .slice B3 m3 e3], .agg #[.int .i64 2, .int .i64 5, .int .i64 2, .int .i64 60, .int .i64 20]] (by go_simp; first | done | rfl) ?_
                  refine (apply_val (HDL.out.grew (gwd.trans S0)) hE7 hD7).mono ?_
                  rintro r v7 ⟨A8, n8, c8, B8, m8, e8, rfl, hd7, g7⟩
                  have S7 : Grew wd v7 := S0.trans g7
                  refine ⟨_, rfl, hK _ _ S7 ?_⟩
                  clear hK K
                  simp only [Act.put, List.setIfInBounds_toArray, List.set_cons_zero, List.set_cons_succ]
                  have HB8' := Lib.hid (g7.block HB0.out)
                  have HD8 := Lib.hid hd7
                  obtain ⟨v8, hv8⟩ : ∃ y, y = v7 := ⟨_, rfl⟩
                  rw [← hv8] at HB8' HD8 S7 ⊢
                  have HB8 := HB8'
                  have S8 := S7
                  clear hd7 gZ g7 S7 S6 HB0 S0 hv8 HB8'
                  refine wpAnyH_takes (fun _ _ _ _ _ h => h) S8 [3, 4, 5] (fuel' := 2) (by kernel_rfl) (by kernel_rfl) (by simp only [pickOps, List.getElem?_toArray, List.getElem?_cons_zero, List.getElem?_cons_succ]; rfl) ?_
                  repeat (first
                    | (refine TakeP.pure (v := ?_) (by rfl) ?_ ?_; rotate_left; (intro w' g'; go_simp; first | done | with_reducible rfl); (simp only [Act.put, List.setIfInBounds_toArray, List.set_cons_zero, List.set_cons_succ])))
                  refine TakeP.nil ?_
                  refine wpAnyH_step (i := 7) (by kernel_rfl) (fuel' := 1) (by kernel_rfl) (by simp only [pickOps, List.getElem?_toArray, List.getElem?_cons_zero, List.getElem?_cons_succ]; rfl) (by rfl) ?_
                  intro K hK
                  refine wp_store_row 25 (.tmp 13) (.tmp 58) rfl bb #[.slice A8 n8 c8, .slice B8 m8 e8] rfl rfl 25 _ HB8.out size25 rfl (by simp [Value.oneCell']) ?_
                  have S9 := grew_setRow S8 hbb #[.slice A8 n8 c8, .slice B8 m8 e8]
                  refine hK _ _ S9 ?_
                  clear hK K
                  have HB9 := setRow_heap v8 bb _ #[.slice A8 n8 c8, .slice B8 m8 e8] 25 (0, 0) HB8.out
                  have HD9 := desk_row HD8.out HB8.out #[.slice A8 n8 c8, .slice B8 m8 e8]
                  refine wpAnyH_takes (fun _ _ _ _ _ h => h) S9 [8] (fuel' := 0) (by kernel_rfl) (by kernel_rfl) (by simp only [pickOps, List.getElem?_toArray, List.getElem?_cons_zero, List.getElem?_cons_succ]; rfl) ?_
                  repeat (first
                    | (refine TakeP.pure (v := ?_) (by rfl) ?_ ?_; rotate_left; (intro w' g'; go_simp; first | done | with_reducible rfl); (simp only [Act.put, List.setIfInBounds_toArray, List.set_cons_zero, List.set_cons_succ])))
                  refine TakeP.nil ?_
                  refine wpAnyH_done (by kernel_rfl) ?_ _
                  have J := HJ.out ⟨A8, n8, c8, B8, m8, e8, bb⟩ _ ⟨Lib.hid HD9, Lib.hid (row_at HB9), gwd.trans S9⟩
                  simp only [Act.put, List.setIfInBounds_toArray, List.set_cons_zero, List.set_cons_succ] at J
                  exact J
              · intro K hK
                go_simp
                have S0 := (Grew.refl wd).alloc (.cells #[.slice none 0 0, .slice none 0 0] 25)
                refine hK _ _ S0 ?_
                clear hK K
                obtain ⟨v9, hv9⟩ : ∃ y, y = wd.alloc (.cells #[.slice none 0 0, .slice none 0 0] 25) := ⟨_, rfl⟩
                have gZ : Grew wd v9 := by rw [hv9]; exact (Grew.refl _).alloc _
                have HB0 : Hid (v9.heap[wd.heap.size]? = some (.cells #[.slice none 0 0, .slice none 0 0] 25)) := by unfold Hid; rw [hv9]; exact heap_alloc_new _ _
                have hbb0 := (Grew.refl wd).le
                rw [← hv9] at S0 ⊢
                obtain ⟨bb, hb0⟩ : ∃ z, z = wd.heap.size := ⟨_, rfl⟩
                have hbb : wd.heap.size ≤ bb := by rw [hb0]; exact hbb0
                rw [← hb0] at HB0 ⊢
                clear hv9 hb0 hbb0
                refine wpAnyH_step (i := 1) (by kernel_rfl) (fuel' := 6) (by kernel_rfl) (by simp only [pickOps, List.getElem?_toArray, List.getElem?_cons_zero, List.getElem?_cons_succ]; rfl) (by rfl) ?_
                intro K hK
                refine wp_call 28 #[.int .i64 2, .int .i64 2, .int .i64 60] (by go_simp; first | done | rfl) ?_
                refine (answer_any 2 2 60 _).mono ?_
                rintro r v6 ⟨rfl, g6⟩
                have S6 : Grew wd v6 := S0.trans g6
                refine ⟨_, rfl, hK _ _ S6 ?_⟩
                clear hK K
                simp only [Act.put, List.setIfInBounds_toArray, List.set_cons_zero, List.set_cons_succ]
                have HB6 := Lib.hid (g6.block HB0.out)
                refine wpAnyH_step (i := 2) (by kernel_rfl) (fuel' := 5) (by kernel_rfl) (by simp only [pickOps, List.getElem?_toArray, List.getElem?_cons_zero, List.getElem?_cons_succ]; rfl) (by rfl) ?_
                intro K hK
                refine wp_call 13 #[.agg #[.slice A3 n3 c3, .slice B3 m3 e3], .agg #[.int .i64 2, .int .i64 5, .int .i64 2, .int .i64 60, .int .i64 20]] (by go_simp; first | done | rfl) ?_
                refine (apply_val (HDL.out.grew (gwd.trans S6)) hE7 hD7).mono ?_
                rintro r v7 ⟨A8, n8, c8, B8, m8, e8, rfl, hd7, g7⟩
                have S7 : Grew wd v7 := S6.trans g7
                refine ⟨_, rfl, hK _ _ S7 ?_⟩
                clear hK K
                simp only [Act.put, List.setIfInBounds_toArray, List.set_cons_zero, List.set_cons_succ]
                have HB8' := Lib.hid (g7.block HB6.out)
                have HD8 := Lib.hid hd7
                obtain ⟨v8, hv8⟩ : ∃ y, y = v7 := ⟨_, rfl⟩
                rw [← hv8] at HB8' HD8 S7 ⊢
                have HB8 := HB8'
                have S8 := S7
                clear hd7 gZ g6 g7 S7 S6 HB0 HB6 S0 hv8 HB8'
                refine wpAnyH_takes (fun _ _ _ _ _ h => h) S8 [3, 4, 5] (fuel' := 2) (by kernel_rfl) (by kernel_rfl) (by simp only [pickOps, List.getElem?_toArray, List.getElem?_cons_zero, List.getElem?_cons_succ]; rfl) ?_
                repeat (first
                  | (refine TakeP.pure (v := ?_) (by rfl) ?_ ?_; rotate_left; (intro w' g'; go_simp; first | done | with_reducible rfl); (simp only [Act.put, List.setIfInBounds_toArray, List.set_cons_zero, List.set_cons_succ])))
                refine TakeP.nil ?_
                refine wpAnyH_step (i := 7) (by kernel_rfl) (fuel' := 1) (by kernel_rfl) (by simp only [pickOps, List.getElem?_toArray, List.getElem?_cons_zero, List.getElem?_cons_succ]; rfl) (by rfl) ?_
                intro K hK
                refine wp_store_row 25 (.tmp 13) (.tmp 58) rfl bb #[.slice A8 n8 c8, .slice B8 m8 e8] rfl rfl 25 _ HB8.out size25 rfl (by simp [Value.oneCell']) ?_
                have S9 := grew_setRow S8 hbb #[.slice A8 n8 c8, .slice B8 m8 e8]
                refine hK _ _ S9 ?_
                clear hK K
                have HB9 := setRow_heap v8 bb _ #[.slice A8 n8 c8, .slice B8 m8 e8] 25 (0, 0) HB8.out
                have HD9 := desk_row HD8.out HB8.out #[.slice A8 n8 c8, .slice B8 m8 e8]
                refine wpAnyH_takes (fun _ _ _ _ _ h => h) S9 [8] (fuel' := 0) (by kernel_rfl) (by kernel_rfl) (by simp only [pickOps, List.getElem?_toArray, List.getElem?_cons_zero, List.getElem?_cons_succ]; rfl) ?_
                repeat (first
                  | (refine TakeP.pure (v := ?_) (by rfl) ?_ ?_; rotate_left; (intro w' g'; go_simp; first | done | with_reducible rfl); (simp only [Act.put, List.setIfInBounds_toArray, List.set_cons_zero, List.set_cons_succ])))
                refine TakeP.nil ?_
                refine wpAnyH_done (by kernel_rfl) ?_ _
                have J := HJ.out ⟨A8, n8, c8, B8, m8, e8, bb⟩ _ ⟨Lib.hid HD9, Lib.hid (row_at HB9), gwd.trans S9⟩
                simp only [Act.put, List.setIfInBounds_toArray, List.set_cons_zero, List.set_cons_succ] at J
                exact J
            · rintro ⟨A7, n7, c7, B7, m7, e7, b7⟩ w7 ⟨HD7, HR7, g⟩
              simp only [Act.put, List.setIfInBounds_toArray, List.set_cons_zero, List.set_cons_succ]
              replace HD1 := Lib.hid (HD1.out.grew g)
              replace HR1 := Lib.hid (range_grew HR1.out g)
              replace HD2 := Lib.hid (HD2.out.grew g)
              replace HR2 := Lib.hid (range_grew HR2.out g)
              replace HD3 := Lib.hid (HD3.out.grew g)
              replace HR3 := Lib.hid (range_grew HR3.out g)
              replace HD4 := Lib.hid (HD4.out.grew g)
              replace HR4 := Lib.hid (range_grew HR4.out g)
              replace gg := gg.trans g
              clear g
              skip
              go_wp2_with fail
              refine cut_region (X := DX) (by kernel_rfl) (fun wd w' => Grew wd w') (fun a x => (((((((a.put (some 61) (.agg #[.slice A1 n1 c1, .slice B1 m1 e1])).put (some 62) (.agg #[.int .i64 4, .int .i64 5, .int .i64 3, .int .i64 0, .int .i64 20])).put (some 63) (.tuple #[.agg #[.slice x.A x.n x.c, .slice x.B x.m x.e], .int .i64 0])).put (some 60) (.tuple #[.agg #[.slice x.A x.n x.c, .slice x.B x.m x.e], .int .i64 0])).put (some 64) (.agg #[.slice x.A x.n x.c, .slice x.B x.m x.e])).put (some 65) (.int .i64 0)).put (some 15) (.pointer (some ⟨x.b, 0, none⟩))).put (some 16) (.int .i64 0)) (fun x w' => Hid (DeskIs w' x.A x.n x.c x.B x.m x.e D8) ∧ Hid (w'.rangeAt x.b 0 [.slice x.A x.n x.c, .slice x.B x.m x.e]) ∧ Grew w7 w') ?_ ?_
              rotate_left
              · intro wd gwd J0
                have HJ := Lib.hid J0
                have HDL := HD1
                obtain ⟨wl, hwl⟩ : ∃ y, y = w7 := ⟨_, rfl⟩
                rw [← hwl] at HJ HDL HR1 gwd
                have hC : ∀ w', Grew wd w' → w'.cell? ⟨b1, 0, none⟩ = some (.slice A1 n1 c1) ∧ w'.cell? ⟨b1, 1, none⟩ = some (.slice B1 m1 e1) := fun w' g' => by
                  have h0 := range_grew HR1.out (gwd.trans g') 0 _ rfl
                  have h1 := range_grew HR1.out (gwd.trans g') 1 _ rfl
                  simp only [Nat.zero_add] at h0 h1
                  exact ⟨h0, h1⟩
                clear hwl J0
                refine wpAnyH_takes (fun _ _ _ _ _ h => h) (Grew.refl _) [0] (fuel' := 8) (by kernel_rfl) (by kernel_rfl) (by simp only [pickOps, List.getElem?_toArray, List.getElem?_cons_zero]; rfl) ?_
                repeat (first
                  | (refine TakeP.pure (v := ?_) (by rfl) ?_ ?_; rotate_left; (intro w' g'; obtain ⟨s0, s1⟩ := hC w' g'; go_simp; first | done | with_reducible rfl); (simp only [Act.put, List.setIfInBounds_toArray, List.set_cons_zero, List.set_cons_succ])))
                refine TakeP.nil ?_
                refine wpAnyH_two (i := 1) (j := 6) (by kernel_rfl) (fuel' := 7) (by kernel_rfl) (by simp only [pickOps, List.getElem?_toArray, List.getElem?_cons_zero, List.getElem?_cons_succ]; rfl) rfl (by simp only [pickOps, List.getElem?_toArray, List.getElem?_cons_zero, List.getElem?_cons_succ]; rfl) rfl ?_ ?_
                · intro K hK
                  refine wp_call 28 #[.int .i64 4, .int .i64 3, .int .i64 0] (by go_simp; first | done | rfl) ?_
                  refine (answer_any 4 3 0 _).mono ?_
                  rintro r v6 ⟨rfl, g6⟩
                  have S6 : Grew wd v6 := g6
                  refine ⟨_, rfl, hK _ _ S6 ?_⟩
                  clear hK K g6
                  simp only [Act.put, List.setIfInBounds_toArray, List.set_cons_zero, List.set_cons_succ]
                  refine wpAnyH_two (i := 2) (j := 6) (by kernel_rfl) (fuel' := 6) (by kernel_rfl) (by simp only [pickOps, List.getElem?_toArray, List.getElem?_cons_zero, List.getElem?_cons_succ]; rfl) rfl (by simp only [pickOps, List.getElem?_toArray, List.getElem?_cons_zero, List.getElem?_cons_succ]; rfl) rfl ?_ ?_
                  · intro K hK
                    refine wp_call 13 #[.agg #[.slice A1 n1 c1, .slice B1 m1 e1], .agg #[.int .i64 4, .int .i64 5, .int .i64 3, .int .i64 0, .int .i64 20]] (by go_simp; first | done | rfl) ?_
                    refine (apply_val (HDL.out.grew (gwd.trans S6)) hE8 hD8).mono ?_
                    rintro r v7 ⟨A8, n8, c8, B8, m8, e8, rfl, hd7, g7⟩
                    have S7 : Grew wd v7 := S6.trans g7
                    refine ⟨_, rfl, hK _ _ S7 ?_⟩
                    clear hK K
                    simp only [Act.put, List.setIfInBounds_toArray, List.set_cons_zero, List.set_cons_succ]
                    refine wpAnyH_takes (fun _ _ _ _ _ h => h) S7 [3, 4, 5] (fuel' := 3) (by kernel_rfl) (by kernel_rfl) (by simp only [pickOps, List.getElem?_toArray, List.getElem?_cons_zero, List.getElem?_cons_succ]; rfl) ?_
                    repeat (first
                      | (refine TakeP.pure (v := ?_) (by rfl) ?_ ?_; rotate_left; (intro w' g'; go_simp; first | done | with_reducible rfl); (simp only [Act.put, List.setIfInBounds_toArray, List.set_cons_zero, List.set_cons_succ])))
                    refine TakeP.nil ?_
                    refine wpAnyH_step (i := 6) (by kernel_rfl) (fuel' := 2) (by kernel_rfl) (by simp only [pickOps, List.getElem?_toArray, List.getElem?_cons_zero, List.getElem?_cons_succ]; rfl) (by rfl) ?_
                    intro K hK
                    go_simp
                    have S0 := S7.alloc (.cells #[.slice none 0 0, .slice none 0 0] 25)
                    refine hK _ _ S0 ?_
                    clear hK K
                    obtain ⟨v8, hv8⟩ : ∃ y, y = v7.alloc (.cells #[.slice none 0 0, .slice none 0 0] 25) := ⟨_, rfl⟩
                    have gZ : Grew v7 v8 := by rw [hv8]; exact (Grew.refl _).alloc _
                    have HB0 : Hid (v8.heap[v7.heap.size]? = some (.cells #[.slice none 0 0, .slice none 0 0] 25)) := by unfold Hid; rw [hv8]; exact heap_alloc_new _ _
                    have hbb0 := S7.le
                    rw [← hv8] at S0 ⊢
                    obtain ⟨bb, hb0⟩ : ∃ z, z = v7.heap.size := ⟨_, rfl⟩
                    have hbb : wd.heap.size ≤ bb := by rw [hb0]; exact hbb0
                    rw [← hb0] at HB0 ⊢
                    clear hv8 hb0 hbb0
                    have HB8 := HB0
                    have HD8 := Lib.hid (hd7.grew gZ)
                    have S8 := S0
                    clear hd7 gZ g7 S7 S6 HB0 S0
                    refine wpAnyH_step (i := 7) (by kernel_rfl) (fuel' := 1) (by kernel_rfl) (by simp only [pickOps, List.getElem?_toArray, List.getElem?_cons_zero, List.getElem?_cons_succ]; rfl) (by rfl) ?_
                    intro K hK
                    refine wp_store_row 25 (.tmp 15) (.tmp 64) rfl bb #[.slice A8 n8 c8, .slice B8 m8 e8] rfl rfl 25 _ HB8.out size25 rfl (by simp [Value.oneCell']) ?_
                    have S9 := grew_setRow S8 hbb #[.slice A8 n8 c8, .slice B8 m8 e8]
                    refine hK _ _ S9 ?_
                    clear hK K
                    have HB9 := setRow_heap v8 bb _ #[.slice A8 n8 c8, .slice B8 m8 e8] 25 (0, 0) HB8.out
                    have HD9 := desk_row HD8.out HB8.out #[.slice A8 n8 c8, .slice B8 m8 e8]
                    refine wpAnyH_takes (fun _ _ _ _ _ h => h) S9 [8] (fuel' := 0) (by kernel_rfl) (by kernel_rfl) (by simp only [pickOps, List.getElem?_toArray, List.getElem?_cons_zero, List.getElem?_cons_succ]; rfl) ?_
                    repeat (first
                      | (refine TakeP.pure (v := ?_) (by rfl) ?_ ?_; rotate_left; (intro w' g'; go_simp; first | done | with_reducible rfl); (simp only [Act.put, List.setIfInBounds_toArray, List.set_cons_zero, List.set_cons_succ])))
                    refine TakeP.nil ?_
                    refine wpAnyH_done (by kernel_rfl) ?_ _
                    have J := HJ.out ⟨A8, n8, c8, B8, m8, e8, bb⟩ _ ⟨Lib.hid HD9, Lib.hid (row_at HB9), gwd.trans S9⟩
                    simp only [Act.put, List.setIfInBounds_toArray, List.set_cons_zero, List.set_cons_succ] at J
                    exact J
                  · intro K hK
                    go_simp
                    have S0 := S6.alloc (.cells #[.slice none 0 0, .slice none 0 0] 25)
                    refine hK _ _ S0 ?_
                    clear hK K
                    obtain ⟨v9, hv9⟩ : ∃ y, y = v6.alloc (.cells #[.slice none 0 0, .slice none 0 0] 25) := ⟨_, rfl⟩
                    have gZ : Grew v6 v9 := by rw [hv9]; exact (Grew.refl _).alloc _
                    have HB0 : Hid (v9.heap[v6.heap.size]? = some (.cells #[.slice none 0 0, .slice none 0 0] 25)) := by unfold Hid; rw [hv9]; exact heap_alloc_new _ _
                    have hbb0 := S6.le
                    rw [← hv9] at S0 ⊢
                    obtain ⟨bb, hb0⟩ : ∃ z, z = v6.heap.size := ⟨_, rfl⟩
                    have hbb : wd.heap.size ≤ bb := by rw [hb0]; exact hbb0
                    rw [← hb0] at HB0 ⊢
                    clear hv9 hb0 hbb0
                    refine wpAnyH_step (i := 2) (by kernel_rfl) (fuel' := 5) (by kernel_rfl) (by simp only [pickOps, List.getElem?_toArray, List.getElem?_cons_zero, List.getElem?_cons_succ]; rfl) (by rfl) ?_
                    intro K hK
                    refine wp_call 13 #[.agg #[.slice A1 n1 c1, .slice B1 m1 e1], .agg #[.int .i64 4, .int .i64 5, .int .i64 3, .int .i64 0, .int .i64 20]] (by go_simp; first | done | rfl) ?_
                    refine (apply_val (HDL.out.grew (gwd.trans S0)) hE8 hD8).mono ?_
                    rintro r v7 ⟨A8, n8, c8, B8, m8, e8, rfl, hd7, g7⟩
                    have S7 : Grew wd v7 := S0.trans g7
                    refine ⟨_, rfl, hK _ _ S7 ?_⟩
                    clear hK K
                    simp only [Act.put, List.setIfInBounds_toArray, List.set_cons_zero, List.set_cons_succ]
                    have HB8' := Lib.hid (g7.block HB0.out)
                    have HD8 := Lib.hid hd7
                    obtain ⟨v8, hv8⟩ : ∃ y, y = v7 := ⟨_, rfl⟩
                    rw [← hv8] at HB8' HD8 S7 ⊢
                    have HB8 := HB8'
                    have S8 := S7
                    clear hd7 gZ g7 S7 S6 HB0 S0 hv8 HB8'
                    refine wpAnyH_takes (fun _ _ _ _ _ h => h) S8 [3, 4, 5] (fuel' := 2) (by kernel_rfl) (by kernel_rfl) (by simp only [pickOps, List.getElem?_toArray, List.getElem?_cons_zero, List.getElem?_cons_succ]; rfl) ?_
                    repeat (first
                      | (refine TakeP.pure (v := ?_) (by rfl) ?_ ?_; rotate_left; (intro w' g'; go_simp; first | done | with_reducible rfl); (simp only [Act.put, List.setIfInBounds_toArray, List.set_cons_zero, List.set_cons_succ])))
                    refine TakeP.nil ?_
                    refine wpAnyH_step (i := 7) (by kernel_rfl) (fuel' := 1) (by kernel_rfl) (by simp only [pickOps, List.getElem?_toArray, List.getElem?_cons_zero, List.getElem?_cons_succ]; rfl) (by rfl) ?_
                    intro K hK
                    refine wp_store_row 25 (.tmp 15) (.tmp 64) rfl bb #[.slice A8 n8 c8, .slice B8 m8 e8] rfl rfl 25 _ HB8.out size25 rfl (by simp [Value.oneCell']) ?_
                    have S9 := grew_setRow S8 hbb #[.slice A8 n8 c8, .slice B8 m8 e8]
                    refine hK _ _ S9 ?_
                    clear hK K
                    have HB9 := setRow_heap v8 bb _ #[.slice A8 n8 c8, .slice B8 m8 e8] 25 (0, 0) HB8.out
                    have HD9 := desk_row HD8.out HB8.out #[.slice A8 n8 c8, .slice B8 m8 e8]
                    refine wpAnyH_takes (fun _ _ _ _ _ h => h) S9 [8] (fuel' := 0) (by kernel_rfl) (by kernel_rfl) (by simp only [pickOps, List.getElem?_toArray, List.getElem?_cons_zero, List.getElem?_cons_succ]; rfl) ?_
                    repeat (first
                      | (refine TakeP.pure (v := ?_) (by rfl) ?_ ?_; rotate_left; (intro w' g'; go_simp; first | done | with_reducible rfl); (simp only [Act.put, List.setIfInBounds_toArray, List.set_cons_zero, List.set_cons_succ])))
                    refine TakeP.nil ?_
                    refine wpAnyH_done (by kernel_rfl) ?_ _
                    have J := HJ.out ⟨A8, n8, c8, B8, m8, e8, bb⟩ _ ⟨Lib.hid HD9, Lib.hid (row_at HB9), gwd.trans S9⟩
                    simp only [Act.put, List.setIfInBounds_toArray, List.set_cons_zero, List.set_cons_succ] at J
                    exact J
                · intro K hK
                  go_simp
                  have S0 := (Grew.refl wd).alloc (.cells #[.slice none 0 0, .slice none 0 0] 25)
                  refine hK _ _ S0 ?_
                  clear hK K
                  obtain ⟨v9, hv9⟩ : ∃ y, y = wd.alloc (.cells #[.slice none 0 0, .slice none 0 0] 25) := ⟨_, rfl⟩
                  have gZ : Grew wd v9 := by rw [hv9]; exact (Grew.refl _).alloc _
                  have HB0 : Hid (v9.heap[wd.heap.size]? = some (.cells #[.slice none 0 0, .slice none 0 0] 25)) := by unfold Hid; rw [hv9]; exact heap_alloc_new _ _
                  have hbb0 := (Grew.refl wd).le
                  rw [← hv9] at S0 ⊢
                  obtain ⟨bb, hb0⟩ : ∃ z, z = wd.heap.size := ⟨_, rfl⟩
                  have hbb : wd.heap.size ≤ bb := by rw [hb0]; exact hbb0
                  rw [← hb0] at HB0 ⊢
                  clear hv9 hb0 hbb0
                  refine wpAnyH_step (i := 1) (by kernel_rfl) (fuel' := 6) (by kernel_rfl) (by simp only [pickOps, List.getElem?_toArray, List.getElem?_cons_zero, List.getElem?_cons_succ]; rfl) (by rfl) ?_
                  intro K hK
                  refine wp_call 28 #[.int .i64 4, .int .i64 3, .int .i64 0] (by go_simp; first | done | rfl) ?_
                  refine (answer_any 4 3 0 _).mono ?_
                  rintro r v6 ⟨rfl, g6⟩
                  have S6 : Grew wd v6 := S0.trans g6
                  refine ⟨_, rfl, hK _ _ S6 ?_⟩
                  clear hK K
                  simp only [Act.put, List.setIfInBounds_toArray, List.set_cons_zero, List.set_cons_succ]
                  have HB6 := Lib.hid (g6.block HB0.out)
                  refine wpAnyH_step (i := 2) (by kernel_rfl) (fuel' := 5) (by kernel_rfl) (by simp only [pickOps, List.getElem?_toArray, List.getElem?_cons_zero, List.getElem?_cons_succ]; rfl) (by rfl) ?_
                  intro K hK
                  refine wp_call 13 #[.agg #[.slice A1 n1 c1, .slice B1 m1 e1], .agg #[.int .i64 4, .int .i64 5, .int .i64 3, .int .i64 0, .int .i64 20]] (by go_simp; first | done | rfl) ?_
                  refine (apply_val (HDL.out.grew (gwd.trans S6)) hE8 hD8).mono ?_
                  rintro r v7 ⟨A8, n8, c8, B8, m8, e8, rfl, hd7, g7⟩
                  have S7 : Grew wd v7 := S6.trans g7
                  refine ⟨_, rfl, hK _ _ S7 ?_⟩
                  clear hK K
                  simp only [Act.put, List.setIfInBounds_toArray, List.set_cons_zero, List.set_cons_succ]
                  have HB8' := Lib.hid (g7.block HB6.out)
                  have HD8 := Lib.hid hd7
                  obtain ⟨v8, hv8⟩ : ∃ y, y = v7 := ⟨_, rfl⟩
                  rw [← hv8] at HB8' HD8 S7 ⊢
                  have HB8 := HB8'
                  have S8 := S7
                  clear hd7 gZ g6 g7 S7 S6 HB0 HB6 S0 hv8 HB8'
                  refine wpAnyH_takes (fun _ _ _ _ _ h => h) S8 [3, 4, 5] (fuel' := 2) (by kernel_rfl) (by kernel_rfl) (by simp only [pickOps, List.getElem?_toArray, List.getElem?_cons_zero, List.getElem?_cons_succ]; rfl) ?_
                  repeat (first
                    | (refine TakeP.pure (v := ?_) (by rfl) ?_ ?_; rotate_left; (intro w' g'; go_simp; first | done | with_reducible rfl); (simp only [Act.put, List.setIfInBounds_toArray, List.set_cons_zero, List.set_cons_succ])))
                  refine TakeP.nil ?_
                  refine wpAnyH_step (i := 7) (by kernel_rfl) (fuel' := 1) (by kernel_rfl) (by simp only [pickOps, List.getElem?_toArray, List.getElem?_cons_zero, List.getElem?_cons_succ]; rfl) (by rfl) ?_
                  intro K hK
                  refine wp_store_row 25 (.tmp 15) (.tmp 64) rfl bb #[.slice A8 n8 c8, .slice B8 m8 e8] rfl rfl 25 _ HB8.out size25 rfl (by simp [Value.oneCell']) ?_
                  have S9 := grew_setRow S8 hbb #[.slice A8 n8 c8, .slice B8 m8 e8]
                  refine hK _ _ S9 ?_
                  clear hK K
                  have HB9 := setRow_heap v8 bb _ #[.slice A8 n8 c8, .slice B8 m8 e8] 25 (0, 0) HB8.out
                  have HD9 := desk_row HD8.out HB8.out #[.slice A8 n8 c8, .slice B8 m8 e8]
                  refine wpAnyH_takes (fun _ _ _ _ _ h => h) S9 [8] (fuel' := 0) (by kernel_rfl) (by kernel_rfl) (by simp only [pickOps, List.getElem?_toArray, List.getElem?_cons_zero, List.getElem?_cons_succ]; rfl) ?_
                  repeat (first
                    | (refine TakeP.pure (v := ?_) (by rfl) ?_ ?_; rotate_left; (intro w' g'; go_simp; first | done | with_reducible rfl); (simp only [Act.put, List.setIfInBounds_toArray, List.set_cons_zero, List.set_cons_succ])))
                  refine TakeP.nil ?_
                  refine wpAnyH_done (by kernel_rfl) ?_ _
                  have J := HJ.out ⟨A8, n8, c8, B8, m8, e8, bb⟩ _ ⟨Lib.hid HD9, Lib.hid (row_at HB9), gwd.trans S9⟩
                  simp only [Act.put, List.setIfInBounds_toArray, List.set_cons_zero, List.set_cons_succ] at J
                  exact J
              · rintro ⟨A8, n8, c8, B8, m8, e8, b8⟩ w8 ⟨HD8, HR8, g⟩
                simp only [Act.put, List.setIfInBounds_toArray, List.set_cons_zero, List.set_cons_succ]
                replace HD1 := Lib.hid (HD1.out.grew g)
                replace HR1 := Lib.hid (range_grew HR1.out g)
                replace HD2 := Lib.hid (HD2.out.grew g)
                replace HR2 := Lib.hid (range_grew HR2.out g)
                replace HD3 := Lib.hid (HD3.out.grew g)
                replace HR3 := Lib.hid (range_grew HR3.out g)
                replace HD4 := Lib.hid (HD4.out.grew g)
                replace HR4 := Lib.hid (range_grew HR4.out g)
                replace HD7 := Lib.hid (HD7.out.grew g)
                replace HR7 := Lib.hid (range_grew HR7.out g)
                replace gg := gg.trans g
                clear g
                obtain rfl : 1 = n4 := by rw [← HD4.out.1.1.1]; rfl
                obtain rfl : 3 = m4 := by rw [← HD4.out.2.1]; rfl
                obtain rfl : 1 = n3 := by rw [← HD3.out.1.1.1]; rfl
                have h40 := HR4.out 0 _ rfl
                have h41 := HR4.out 1 _ rfl
                have h30 := HR3.out 0 _ rfl
                simp only [Nat.zero_add] at h40 h41 h30
                go_wp2_with fail
                refine (entries_val HD4.out hL4).mono ?_
                rintro r w9 ⟨A9, n9, c9, rfl, hr9, g⟩
                obtain rfl : 3 = n9 := by rw [← hr9.1.1]; rfl
                replace HD1 := Lib.hid (HD1.out.grew g)
                replace HR1 := Lib.hid (range_grew HR1.out g)
                replace HD3 := Lib.hid (HD3.out.grew g)
                replace HR3 := Lib.hid (range_grew HR3.out g)
                replace HD4 := Lib.hid (HD4.out.grew g)
                replace HR4 := Lib.hid (range_grew HR4.out g)
                replace HD7 := Lib.hid (HD7.out.grew g)
                replace HR7 := Lib.hid (range_grew HR7.out g)
                replace HD8 := Lib.hid (HD8.out.grew g)
                replace HR8 := Lib.hid (range_grew HR8.out g)
                replace gg := gg.trans g
                clear g h40 h41 h30
                obtain ⟨b3', o3, x3, hA3, k3, r3⟩ := HD3.out.1.1.at_ se_ok (show 0 < 1 by decide)
                obtain ⟨b4', o4, x4, hA4, k4, r4⟩ := HD4.out.1.1.at_ se_ok (show 0 < 1 by decide)
                obtain ⟨b4a, o4a, y4, hB4, f4, s4⟩ := HD4.out.2.at_ ae_ok (show 0 < 3 by decide)
                obtain ⟨b9, o9, z0, hA9, q0, t0⟩ := hr9.1.at_ ne_ok (show 0 < 3 by decide)
                obtain ⟨b9', o9', z1, hA9', q1, t1⟩ := hr9.1.at_ ne_ok (show 1 < 3 by decide)
                obtain ⟨b9'', o9'', z2, hA9'', q2, t2⟩ := hr9.1.at_ ne_ok (show 2 < 3 by decide)
                subst hA3 hA4 hB4 hA9
                injection hA9' with hA9'
                injection hA9' with i1 i2
                subst i1 i2
                injection hA9'' with hA9''
                injection hA9'' with i1 i2
                subst i1 i2
                obtain rfl : (⟨pA, 3, 60, 0⟩ : Sta) = x3 := by simpa [D3] using k3
                obtain rfl : (⟨pA, 5, 60, 30⟩ : Sta) = x4 := by simpa [D4] using k4
                obtain rfl : (⟨1, 5, 1, 0, 20⟩ : Ans) = y4 := by simpa [D4] using f4
                obtain rfl : (⟨10, ⟨#[97, 110, 110, 97]⟩, transit, 100, 10, 10⟩ : Ent) = z0 := by simpa [E4] using q0
                obtain rfl : (⟨5, transit, bank, 60, 20, 20⟩ : Ent) = z1 := by simpa [E4] using q1
                obtain rfl : (⟨15, bank, ⟨#[97, 110, 110, 97]⟩, 30, 20, 20⟩ : Ent) = z2 := by simpa [E4] using q2
                have HC : Hid (∀ w', Grew w9 w' → (w'.cell? ⟨b1, 0, none⟩ = some (.slice A1 n1 c1) ∧ w'.cell? ⟨b1, 1, none⟩ = some (.slice B1 m1 e1)) ∧ (w'.cell? ⟨b3, 0, none⟩ = some (.slice (some ⟨b3', o3, none⟩) 1 c3) ∧ w'.cell? ⟨b3, 1, none⟩ = some (.slice B3 m3 e3)) ∧ (w'.cell? ⟨b4, 0, none⟩ = some (.slice (some ⟨b4', o4, none⟩) 1 c4) ∧ w'.cell? ⟨b4, 1, none⟩ = some (.slice (some ⟨b4a, o4a, none⟩) 3 e4)) ∧ (w'.cell? ⟨b7, 0, none⟩ = some (.slice A7 n7 c7) ∧ w'.cell? ⟨b7, 1, none⟩ = some (.slice B7 m7 e7)) ∧ (w'.cell? ⟨b8, 0, none⟩ = some (.slice A8 n8 c8) ∧ w'.cell? ⟨b8, 1, none⟩ = some (.slice B8 m8 e8)) ∧
                    w'.cell? ⟨b3', o3 + 4, none⟩ = some (.int .i64 3) ∧ w'.cell? ⟨b4', o4 + 4, none⟩ = some (.int .i64 5) ∧ w'.cell? ⟨b4', o4 + 5, none⟩ = some (.int .i64 60) ∧ w'.cell? ⟨b4a, o4a, none⟩ = some (.int .i64 1) ∧ w'.cell? ⟨b9, o9, none⟩ = some (.int .i64 10) ∧ w'.cell? ⟨b9, o9 + 6, none⟩ = some (.int .i64 5) ∧ w'.cell? ⟨b9, o9 + 12 + 2, none⟩ = some (.string ⟨#[97, 110, 110, 97]⟩)) := fun w' g' => by
                  have R1 := range_grew HR1.out g'
                  have R3 := range_grew HR3.out g'
                  have R4 := range_grew HR4.out g'
                  have R7 := range_grew HR7.out g'
                  have R8 := range_grew HR8.out g'
                  have a3 := range_grew r3 g'
                  have a4 := range_grew r4 g'
                  have aa := range_grew s4 g'
                  have a0 := range_grew t0 g'
                  have a1 := range_grew t1 g'
                  have a2 := range_grew t2 g'
                  exact ⟨⟨R1 0 _ rfl, R1 1 _ rfl⟩, ⟨R3 0 _ rfl, R3 1 _ rfl⟩, ⟨R4 0 _ rfl, R4 1 _ rfl⟩, ⟨R7 0 _ rfl, R7 1 _ rfl⟩, ⟨R8 0 _ rfl, R8 1 _ rfl⟩, a3 4 _ rfl, a4 4 _ rfl, a4 5 _ rfl, aa 0 _ rfl, a0 0 _ rfl, a1 0 _ rfl, a2 2 _ rfl⟩
                clear r3 r4 s4 t0 t1 t2 k3 k4 f4 q0 q1 q2 hr9
                obtain ⟨⟨u0, u1⟩, ⟨u2, u3⟩, ⟨u4, u5⟩, ⟨u6, u7⟩, ⟨u8, u9⟩, v1, v2, v3, v4, v5, v6, v7⟩ := HC.out _ (Grew.refl _)
                go_wp2_with fail
                refine (same_val HD7.out HD3.out hM).mono ?_
                rintro r w10 ⟨rfl, g10⟩
                clear u0 u1 u2 u3 u4 u5 u6 u7 u8 u9 v1 v2 v3 v4 v5 v6 v7
                obtain ⟨⟨u0, u1⟩, ⟨u2, u3⟩, ⟨u4, u5⟩, ⟨u6, u7⟩, ⟨u8, u9⟩, v1, v2, v3, v4, v5, v6, v7⟩ := HC.out _ g10
                go_wp2_with fail
                refine (spent_val (HD4.out.grew g10) hS4).mono ?_
                rintro r w11 ⟨rfl, g11⟩
                have gA := g10.trans g11
                clear u0 u1 u2 u3 u4 u5 u6 u7 u8 u9 v1 v2 v3 v4 v5 v6 v7 g10 g11
                obtain ⟨⟨u0, u1⟩, ⟨u2, u3⟩, ⟨u4, u5⟩, ⟨u6, u7⟩, ⟨u8, u9⟩, v1, v2, v3, v4, v5, v6, v7⟩ := HC.out _ gA
                go_wp2_with fail
                refine (spent_val (HD8.out.grew gA) hS8).mono ?_
                rintro r w12 ⟨rfl, g12⟩
                have gB := gA.trans g12
                clear u0 u1 u2 u3 u4 u5 u6 u7 u8 u9 v1 v2 v3 v4 v5 v6 v7 gA g12
                obtain ⟨⟨u0, u1⟩, ⟨u2, u3⟩, ⟨u4, u5⟩, ⟨u6, u7⟩, ⟨u8, u9⟩, v1, v2, v3, v4, v5, v6, v7⟩ := HC.out _ gB
                go_wp2_with fail
                refine (spent_val (HD1.out.grew gB) hS1).mono ?_
                rintro r w13 ⟨rfl, g13⟩
                have gC := gB.trans g13
                clear u0 u1 u2 u3 u4 u5 u6 u7 u8 u9 v1 v2 v3 v4 v5 v6 v7 gB g13
                obtain ⟨⟨u0, u1⟩, ⟨u2, u3⟩, ⟨u4, u5⟩, ⟨u6, u7⟩, ⟨u8, u9⟩, v1, v2, v3, v4, v5, v6, v7⟩ := HC.out _ gC
                have gE := gg.trans gC
                go_wp2_with fail
                go_ret
                exact ⟨rfl, gE⟩
end Go.Proofs.Ytaocjobbfcfleaa
