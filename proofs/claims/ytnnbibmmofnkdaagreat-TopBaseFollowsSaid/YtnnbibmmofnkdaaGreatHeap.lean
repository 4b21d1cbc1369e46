/-
 A heap of numbers, behind an interface: its numbers are only moved.
-/
import Derived.Test.YtnnbibmmofnkdaaGreatRosB
import Derived.Test.YtnnbibmmofnkdaaGreatRefA
namespace Go.Proofs.YtnnbibmmofnkdaaGreat
open Go.RowKit Go.Proofs WageMem WageReg WageRec WageSpan WageTop
/-- Whole blocks that stay; what lies outside the heap stays. -/
structure KeepD (G : Nat → Prop) (A B : World) : Prop where
 size : A.heap.size ≤ B.heap.size
 keep : ∀ (k : Nat) (o : Obj), G k → A.heap[k]? = some o → B.heap[k]? = some o
 os : B.os = A.os
 tape : B.tape = A.tape
 output : B.output = A.output
theorem KeepD.b {G : Nat → Prop} {A B : World} (h : KeepD G A B) : KeepB G A B := ⟨h.1, h.2⟩
theorem KeepD.trans {G : Nat → Prop} {A B C : World} (h : KeepD G A B) (k : KeepD G B C) : KeepD G A C := ⟨Nat.le_trans h.1 k.1, fun i o hi ho => k.2 i o hi (h.2 i o hi ho), k.os.trans h.os, k.tape.trans h.tape, k.output.trans h.output⟩
theorem KeepD.refl {G : Nat → Prop} (A : World) : KeepD G A A := ⟨Nat.le_refl _, fun _ _ _ h => h, rfl, rfl, rfl⟩
theorem KeepD.grew {G : Nat → Prop} {A B : World} (h : Grew A B) : KeepD G A B := ⟨h.le, fun _ _ _ ho => h.block ho, h.os, h.tape, h.output⟩
theorem KeepD.cell {G : Nat → Prop} {A B : World} (h : KeepD G A B) {p : Addr} {v : Value} (hp : G p.block) (hc : A.cell? p = some v) : B.cell? p = some v := h.b.cell hp hc
theorem KeepD.sl {G : Nat → Prop} {W W' : World} {size : Nat} {A : Option Addr} {n c : Nat} {xs : List Value} (h : Sl W size A n c xs) (k : KeepD G W W') (hG : ∀ b o, A = some ⟨b, o, none⟩ → 0 < n → G b) : Sl W' size A n c xs := KeepB.sl h k.b hG
theorem KeepD.row {G : Nat → Prop} {A B : World} {row : Option Nat} (g : A.grownBy B row) (hr : ∀ k, row = some k → ¬ G k) : KeepD G A B :=
 ⟨g.size, fun k _ hk ho => (g.block k (Array.getElem?_eq_some_iff.1 ho).1 (fun e => hr k e.symm hk)).trans ho, g.os, g.tape, g.output⟩
theorem KeepD.grown {G : Nat → Prop} {A B : World} {b : Nat} (h : A.grownBy B (some b)) (hb : ¬ G b) : KeepD G A B := KeepD.row h (fun k e => by injection e with e; subst e; exact hb)
theorem own_keepD {G : Nat → Prop} {W W' : World} {base : Nat} {e : TypeId} {size : Nat} {v : Value} {n : Nat} {xs : List Value} (h : W.ownsRow base e size v n xs) (k : KeepD G W W') (hG : ∀ b, v.ownBlock = some b → G b) : W'.ownsRow base e size v n xs := own_keepB h k.b hG
/-- Where all blocks stay, the world has grown. -/
theorem KeepD.all {G : Nat → Prop} {A B : World} (h : KeepD G A B) (hG : ∀ j, j < A.heap.size → G j) : Grew A B :=
 ⟨h.os, h.tape, h.output, h.size, fun k hk => by
  have h1 : A.heap[k]? = some A.heap[k] := Array.getElem?_eq_getElem hk
  rw [h1]; exact h.2 k _ (hG k hk) h1⟩
theorem row_len : ((Tryz.prog.info? 209).bind fun i => i.methods.find? (·.name == "Len")).map (fun m => (m.path, m.func)) = some (#[⟨131, 0, true⟩], some (112, false)) := by kernel_rfl
theorem row_less : ((Tryz.prog.info? 209).bind fun i => i.methods.find? (·.name == "Less")).map (fun m => (m.path, m.func)) = some (#[⟨131, 0, true⟩], some (206, false)) := by kernel_rfl
theorem row_swap : ((Tryz.prog.info? 209).bind fun i => i.methods.find? (·.name == "Swap")).map (fun m => (m.path, m.func)) = some (#[⟨131, 0, true⟩], some (208, false)) := by kernel_rfl
theorem fol131 (a : Addr) (w : World) : (follow [⟨131, 0, true⟩] 209 (.val (.pointer (some a)))).run Tryz.prog w = .ok (129, .var (a.add 0)) w := by kernel_rfl
theorem met_up {f : Nat} {nm : String} (h : ((Tryz.prog.info? 209).bind fun i => i.methods.find? (·.name == nm)).map (fun m => (m.path, m.func)) = some (#[⟨131, 0, true⟩], some (f, false))) {w : World} {b o : Nat} {A : Option Addr} {n c : Nat} (hc : w.cell? ⟨b, o, none⟩ = some (.slice A n c)) (k : Nat) :
  (method (k + 1) 209 (.pointer (some ⟨b, o, none⟩)) nm).run Tryz.prog w = .ok (f, .slice A n c) w := by
 cases hi : Tryz.prog.info? 209 with
 | none => simp [hi] at h
 | some i =>
  cases hm : i.methods.find? (·.name == nm) with
  | none => simp [hi, hm] at h
  | some m =>
   simp only [hi, hm, Option.bind_some, Option.map_some, Option.some.injEq, Prod.mk.injEq] at h
   obtain ⟨h1, h2⟩ := h
   have hf := fol131 ⟨b, o, none⟩ w
   simp [method, typeInfo, hi, hm, h1, h2, hf, receiverAt, Place.get, go_sem, hc]
theorem met_push (w : World) (b o : Nat) : (method 402 209 (.pointer (some ⟨b, o, none⟩)) "Push").run Tryz.prog w = .ok (223, .pointer (some ⟨b, o, none⟩)) w := by kernel_rfl
theorem met_pop (w : World) (b o : Nat) : (method 402 209 (.pointer (some ⟨b, o, none⟩)) "Pop").run Tryz.prog w = .ok (222, .pointer (some ⟨b, o, none⟩)) w := by kernel_rfl
def swp (U : List Int) (i j : Nat) : List Int := (U.set i (U.getD j 0)).set j (U.getD i 0)
theorem swp_other {U : List Int} {i j k : Nat} (h1 : k ≠ i) (h2 : k ≠ j) : (swp U i j)[k]? = U[k]? := by
 unfold swp
 rw [List.getElem?_set_ne (fun e => h2 e.symm), List.getElem?_set_ne (fun e => h1 e.symm)]
theorem swp_right {U : List Int} {i j : Nat} (hj : j < U.length) : (swp U i j)[j]? = some (U.getD i 0) := by
 unfold swp
 rw [List.getElem?_set_self (by rw [List.length_set]; exact hj)]
theorem swp_perm0 {U : List Int} {i j : Nat} {x y : Int} (hi : i < U.length) (hj : j < U.length) (hx : U[i] = x) (hy : U[j] = y) : ((U.set i y).set j x).Perm U := by
 rw [List.perm_iff_count]
 intro b
 have hl : j < (U.set i y).length := by rw [List.length_set]; exact hj
 rw [List.count_set hl, List.count_set hi, List.getElem_set]
 have ci : 0 < U.count U[i] := List.count_pos_iff.2 (List.getElem_mem hi)
 have cj : 0 < U.count U[j] := List.count_pos_iff.2 (List.getElem_mem hj)
 have hxy : i = j → x = y := fun e => by subst e; rw [← hx, ← hy]
 rw [hx, hy]
 rw [hx] at ci
 rw [hy] at cj
 clear hx hy hl
 by_cases hij : i = j
 ·obtain rfl := hxy hij
  rw [if_pos hij]
  by_cases h : x = b
  ·subst h; simp; omega
  ·have : (x == b) = false := beq_eq_false_iff_ne.2 h
   simp [this]
 ·rw [if_neg hij]
  by_cases h1 : x = b <;> by_cases h2 : y = b
  ·subst h1; subst h2; simp; omega
  ·subst h1
   have : (y == x) = false := beq_eq_false_iff_ne.2 h2
   simp [this]; omega
  ·subst h2
   have : (x == y) = false := beq_eq_false_iff_ne.2 h1
   simp [this]
  ·have e1 : (x == b) = false := beq_eq_false_iff_ne.2 h1
   have e2 : (y == b) = false := beq_eq_false_iff_ne.2 h2
   simp [e1, e2]
theorem swp_perm {U : List Int} {i j : Nat} (hi : i < U.length) (hj : j < U.length) : (swp U i j).Perm U :=
 swp_perm0 hi hj (by rw [List.getD_eq_getElem?_getD, List.getElem?_eq_getElem hi]; rfl) (by rw [List.getD_eq_getElem?_getD, List.getElem?_eq_getElem hj]; rfl)
/-- A heap: the block with its slice's header, and the slice's own row. -/
structure HpAt (w : World) (b base : Nat) (pre : List Value) (Pr : Nat → Prop) (A : Option Addr) (n c : Nat) (U : List Int) : Prop where
 hd : Blk w b 133 (pre ++ [.slice A n c])
 own : w.ownsRow base 3 1 (.slice A n c) n (U.map iv)
 len : U.length = n
 pre : pre.length = 7
 nb : ¬ Pr b
 ng : ∀ g, Value.ownBlock (.slice A n c) = some g → ¬ Pr g ∧ g ≠ b
 le : n ≤ 1000000
theorem HpAt.cell {w : World} {b base : Nat} {pre : List Value} {Pr : Nat → Prop} {A : Option Addr} {n c : Nat} {U : List Int} (h : HpAt w b base pre Pr A n c U) : w.cell? ⟨b, 7, none⟩ = some (.slice A n c) := h.hd.cell (by rw [List.getElem?_append_right (by rw [h.pre]; exact Nat.le_refl _), h.pre]; rfl)
theorem HpAt.form {w : World} {b base : Nat} {pre : List Value} {Pr : Nat → Prop} {A : Option Addr} {n c : Nat} {U : List Int} (h : HpAt w b base pre Pr A n c U) (hn : 0 < n) : ∃ g, A = some ⟨g, 0, none⟩ := by
 rcases h.own.2 with ⟨h1, h2⟩ | ⟨g, cap, cur, h1, _⟩
 ·omega
 ·injection h1 with h1 _ _
  exact ⟨g, h1⟩
theorem HpAt.grew {w w' : World} {b base : Nat} {pre : List Value} {Pr : Nat → Prop} {A : Option Addr} {n c : Nat} {U : List Int} (h : HpAt w b base pre Pr A n c U) (g : Grew w w') : HpAt w' b base pre Pr A n c U :=
 ⟨h.hd.grew g, own_grew h.own g, h.len, h.pre, h.nb, h.ng, h.le⟩
theorem HpAt.at_ {w : World} {b base : Nat} {pre : List Value} {Pr : Nat → Prop} {g n c : Nat} {U : List Int} (h : HpAt w b base pre Pr (some ⟨g, 0, none⟩) n c U) {i : Nat} (hi : i < n) : w.cell? ⟨g, i, none⟩ = some (.int .i64 (U.getD i 0)) := by
 have h1 := h.own.cellAt i (by omega)
 rw [h1, List.getElem?_map, List.getD_eq_getElem?_getD, List.getElem?_eq_getElem (by rw [h.len]; exact hi)]
 rfl
theorem HpAt.set {w : World} {b base : Nat} {pre : List Value} {Pr : Nat → Prop} {g n c : Nat} {U : List Int} (h : HpAt w b base pre Pr (some ⟨g, 0, none⟩) n c U) (i : Nat) (x : Int) : HpAt (w.setCell ⟨g, i, none⟩ (.int .i64 x)) b base pre Pr (some ⟨g, 0, none⟩) n c (U.set i x) := by
 have hng := h.ng g rfl
 refine ⟨h.hd.other (fun e => hng.2 e.symm) _, ?_, by rw [List.length_set]; exact h.len, h.pre, h.nb, h.ng, h.le⟩
 rw [List.map_set]
 exact (h.own.stored i _).1
theorem keep_set {Pr : Nat → Prop} {y w : World} (h : KeepD Pr y w) {g : Nat} (hg : ¬ Pr g) (i : Nat) (v : Value) : KeepD Pr y (w.setCell ⟨g, i, none⟩ v) := h.trans (KeepD.grown (grown_set w g i v) hg)
theorem met_len {w : World} {b base : Nat} {pre : List Value} {Pr : Nat → Prop} {A : Option Addr} {n c : Nat} {U : List Int} (h : HpAt w b base pre Pr A n c U) : (method 402 209 (.pointer (some ⟨b, 7, none⟩)) "Len").run Tryz.prog w = .ok (112, .slice A n c) w := met_up row_len h.cell 401
theorem met_less {w : World} {b base : Nat} {pre : List Value} {Pr : Nat → Prop} {A : Option Addr} {n c : Nat} {U : List Int} (h : HpAt w b base pre Pr A n c U) : (method 402 209 (.pointer (some ⟨b, 7, none⟩)) "Less").run Tryz.prog w = .ok (206, .slice A n c) w := met_up row_less h.cell 401
theorem met_swap {w : World} {b base : Nat} {pre : List Value} {Pr : Nat → Prop} {A : Option Addr} {n c : Nat} {U : List Int} (h : HpAt w b base pre Pr A n c U) : (method 402 209 (.pointer (some ⟨b, 7, none⟩)) "Swap").run Tryz.prog w = .ok (208, .slice A n c) w := met_up row_swap h.cell 401
set_option maxRecDepth 100000 in
theorem len112 (A : Option Addr) (n c : Nat) (w : World) : Calls Tryz.prog 112 #[.slice A n c] w fun e w' => e = .returned (.int .i64 (n : Int)) ∧ w' = w := by
 go_enter Tryz.func112, Tryz.ntmps112
 go_wp2
 go_ret
 exact ⟨rfl, rfl⟩
set_option maxRecDepth 100000 in
theorem less206 {w : World} {b base : Nat} {pre : List Value} {Pr : Nat → Prop} {g n c : Nat} {U : List Int} (h : HpAt w b base pre Pr (some ⟨g, 0, none⟩) n c U) {i j : Nat} (hi : i < n) (hj : j < n) :
  Calls Tryz.prog 206 #[.slice (some ⟨g, 0, none⟩) n c, .int .i64 i, .int .i64 j] w fun e w' => e = .returned (.bool (decide (U.getD i 0 < U.getD j 0))) ∧ Grew w w' := by
 have h63 := h.le
 obtain ⟨x, hx⟩ : ∃ x, U.getD i 0 = x := ⟨_, rfl⟩
 obtain ⟨y, hy⟩ : ∃ x, U.getD j 0 = x := ⟨_, rfl⟩
 have c0 := h.at_ hi
 have c1 := h.at_ hj
 rw [hx] at c0 ⊢
 rw [hy] at c1 ⊢
 have hC : ∀ w', Grew w w' → w'.cell? ⟨g, i, none⟩ = some (.int .i64 x) ∧ w'.cell? ⟨g, j, none⟩ = some (.int .i64 y) := fun w' g' => ⟨g'.cell c0, g'.cell c1⟩
 have HC := Lib.hid hC
 have e0 : (0 : Int) ≤ (i : Int) := by omega
 have e1 : (i : Int) < (n : Int) := by omega
 have e2 : (0 : Int) ≤ (j : Int) := by omega
 have e3 : (j : Int) < (n : Int) := by omega
 obtain ⟨t, ht⟩ : ∃ t, decide (x < y) = t := ⟨_, rfl⟩
 rw [ht]
 clear hC c0 c1 hx hy h
 go_enter Tryz.func206, Tryz.ntmps206
 go_upto_region 1 with (fail)
 refine wp_region_seq (by kernel_rfl) Grew.refl (fun _ _ _ => Grew.trans) (fun _ _ _ _ _ h => h) (by kernel_rfl) ?_
 repeat (first
  | (refine TakeAll.pure (v := ?_) (by rfl) ?_ ?_; rotate_left; (intro w' g'; obtain ⟨q_0, q_1⟩ := HC.out w' ((Grew.refl w).drew.trans g'); go_simp; first | done | with_reducible rfl); (simp only [Act.put, uzT, uz0, uz1]))
  | (refine TakeAll.skip (by rfl) ?_; (simp only [Act.put, uzT, uz0, uz1])))
 refine TakeAll.nil ?_
 intro w1 g1
 have G1 := Lib.hid ((Grew.refl w).drew.trans g1)
 clear HC ht g1
 go_wp2
 go_ret
 exact ⟨rfl, G1.out⟩
set_option maxRecDepth 100000 in
theorem swap208 {w : World} {b base : Nat} {pre : List Value} {Pr : Nat → Prop} {g n c : Nat} {U : List Int} (h : HpAt w b base pre Pr (some ⟨g, 0, none⟩) n c U) {i j : Nat} (hi : i < n) (hj : j < n) :
  Calls Tryz.prog 208 #[.slice (some ⟨g, 0, none⟩) n c, .int .i64 i, .int .i64 j] w fun e w' => e = .returned (.tuple #[]) ∧ HpAt w' b base pre Pr (some ⟨g, 0, none⟩) n c (swp U i j) ∧ KeepD Pr w w' := by
 have h63 := h.le
 obtain ⟨x, hx⟩ : ∃ x, U.getD i 0 = x := ⟨_, rfl⟩
 obtain ⟨y, hy⟩ : ∃ x, U.getD j 0 = x := ⟨_, rfl⟩
 have HD := Lib.hid (h.grew (Grew.refl w).drew)
 have HE := Lib.hid ((h.grew (Grew.refl w).drew).set i y)
 have HF := Lib.hid (((h.grew (Grew.refl w).drew).set i y).set j x)
 have hng := (h.ng g rfl).1
 have HK : Hid (KeepD Pr w ((w.drew.setCell ⟨g, i, none⟩ (.int .i64 y)).setCell ⟨g, j, none⟩ (.int .i64 x))) := keep_set (keep_set (KeepD.grew (Grew.refl w).drew) hng i _) hng j _
 have HS : Hid (swp U i j = (U.set i y).set j x) := by unfold Hid swp; rw [hx, hy]
 have c0 := HD.out.at_ hi
 have c1 := HD.out.at_ hj
 rw [hx] at c0
 rw [hy] at c1
 have d0 := h.at_ hi
 have d1 := h.at_ hj
 rw [hx] at d0
 rw [hy] at d1
 have f0 := HD.out.own.frozenAt i
 have f1 := HE.out.own.frozenAt j
 have f2 := h.own.frozenAt i
 have f3 := h.own.frozenAt j
 have f4 := HD.out.own.frozenAt j
 have k1 : ∃ v, (w.drew.setCell ⟨g, i, none⟩ (.int .i64 y)).cell? ⟨g, j, none⟩ = some v := ⟨_, HE.out.at_ hj⟩
 obtain ⟨v1, k1⟩ := k1
 have k2 := (h.set i y).at_ hj
 have f5 := (h.set i y).own.frozenAt j
 have e0 : (0 : Int) ≤ (i : Int) := by omega
 have e1 : (i : Int) < (n : Int) := by omega
 have e2 : (0 : Int) ≤ (j : Int) := by omega
 have e3 : (j : Int) < (n : Int) := by omega
 rw [HS.out]
 clear hng hx hy h HS
 go_enter Tryz.func208, Tryz.ntmps208
 go_upto_region 0 with (fail)
 refine wp_region_H (by kernel_rfl) (fun _ => True) ?_
 refine wpAnyH_takes (fun _ _ _ _ _ h => h) trivial [0, 1, 2, 3, 4, 5, 6, 8, 9, 10] (fuel' := 6) (by kernel_rfl) (by kernel_rfl) (by simp only [pickOps, ugT, ug0, ug1]; rfl) ?_
 repeat (first
  | (refine TakeP.pure (v := ?_) (by rfl) ?_ ?_; rotate_left; (intro w' g'; go_simp; first | done | with_reducible rfl); (simp only [Act.put, uzT, uz0, uz1]))
  | (refine TakeP.skip (by rfl) ?_; (simp only [Act.put, uzT, uz0, uz1])))
 refine TakeP.nil ?_
 refine wpAnyH_two (i := 7) (j := 11) (by decide +kernel) (fuel' := 5) (by kernel_rfl) (by simp only [pickOps, ugT, ug0, ug1]; rfl) rfl (by simp only [pickOps, ugT, ug0, ug1]; rfl) rfl ?_ ?_
 all_goals (intro K hK; go_simp; refine hK _ _ trivial ?_; clear hK K; try simp only [Act.put, uzT, uz0, uz1])
 all_goals first
  | refine wpAnyH_step (i := 7) (by decide +kernel) (fuel' := 4) (by kernel_rfl) (by simp only [pickOps, ugT, ug0, ug1]; rfl) (by rfl) ?_
  | refine wpAnyH_step (i := 11) (by decide +kernel) (fuel' := 4) (by kernel_rfl) (by simp only [pickOps, ugT, ug0, ug1]; rfl) (by rfl) ?_
 all_goals (intro K hK; go_simp; refine hK _ _ trivial ?_; clear hK K; try simp only [Act.put, uzT, uz0, uz1])
 all_goals refine wpAnyH_step (i := 12) (by decide +kernel) (fuel' := 3) (by kernel_rfl) (by simp only [pickOps, ugT, ug0, ug1]; rfl) (by rfl) ?_
 all_goals (intro K hK; go_simp; refine hK _ _ trivial ?_; clear hK K; try simp only [Act.put, uzT, uz0, uz1])
 all_goals refine wpAnyH_step (i := 13) (by decide +kernel) (fuel' := 2) (by kernel_rfl) (by simp only [pickOps, ugT, ug0, ug1]; rfl) (by rfl) ?_
 all_goals (intro K hK; go_simp; refine hK _ _ trivial ?_; clear hK K; try simp only [Act.put, uzT, uz0, uz1])
 all_goals refine wpAnyH_step (i := 14) (by decide +kernel) (fuel' := 1) (by kernel_rfl) (by simp only [pickOps, ugT, ug0, ug1]; rfl) (by rfl) ?_
 all_goals (intro K hK; go_simp; refine hK _ _ trivial ?_; clear hK K; try simp only [Act.put, uzT, uz0, uz1])
 all_goals refine wpAnyH_step (i := 15) (by decide +kernel) (fuel' := 0) (by kernel_rfl) (by simp only [pickOps, ugT, ug0, ug1]; rfl) (by rfl) ?_
 all_goals (intro K hK; go_simp; refine hK _ _ trivial ?_; clear hK K; try simp only [Act.put, uzT, uz0, uz1])
 all_goals (refine wpAnyH_done (by decide +kernel) ?_ _; clear c0 c1 d0 d1 f0 f1 f2 f3 f4 f5 k1 k2; go_end0; exact ⟨rfl, HF.out, HK.out⟩)
theorem set_last (pre : List Value) (x y : Value) (h : pre.length = 7) : (pre ++ [x]).set 7 y = pre ++ [y] := by
 rw [List.set_append, if_neg (by omega), h]
 rfl
theorem own_less {w : World} {base : Nat} {g n c m : Nat} {U : List Int} (h : w.ownsRow base 3 1 (.slice (some ⟨g, 0, none⟩) n c) n (U.map iv)) (hm : m ≤ n) : w.ownsRow base 3 1 (.slice (some ⟨g, 0, none⟩) m c) m ((U.take m).map iv) := by
 obtain ⟨h1, h2 | ⟨g', cap, cur, hv, a1, a2, a3, a4, a5, a6⟩⟩ := h
 ·exact absurd h2.1 (by simp)
 ·injection hv with hg hn hc
  injection hg with hg
  injection hg with hg
  subst hg hc
  refine ⟨?_, .inr ⟨_, _, cur, rfl, a1, a2, by omega, a4, a5, ?_⟩⟩
  ·rw [List.length_map] at h1
   rw [List.length_map, List.length_take]
   omega
  ·rw [List.map_take, ← a6, List.take_take, Nat.mul_one, Nat.mul_one, Nat.min_eq_left hm]
def RetPush (b base : Nat) (pre : List Value) (Pr : Nat → Prop) (n : Nat) (w : World) (V : List Int → Prop) (e : Ending) (w' : World) : Prop := ∃ A c U, e = .returned (.tuple #[]) ∧ V U ∧ HpAt w' b base pre Pr A n c U ∧ KeepD Pr w w'
theorem keep_grown {Pr : Nat → Prop} {y w w' : World} {row : Option Nat} (h : KeepD Pr y w) (g : w.grownBy w' row) (hr : ∀ k, row = some k → ¬ Pr k) : KeepD Pr y w' :=
 h.trans (KeepD.row g hr)
theorem HpAt.kept_hd {w w' : World} {b base : Nat} {pre : List Value} {Pr : Nat → Prop} {A : Option Addr} {n c : Nat} {U : List Int} (h : HpAt w b base pre Pr A n c U) (g : w.grownBy w' (Value.ownBlock (.slice A n c))) : Blk w' b 133 (pre ++ [.slice A n c]) :=
 h.hd.kept g (fun e => (h.ng b e.symm).2 rfl)
theorem hd_cell {w : World} {b : Nat} {pre : List Value} {v : Value} (h : Blk w b 133 (pre ++ [v])) (hp : pre.length = 7) : w.cell? ⟨b, 7, none⟩ = some v := h.cell (by rw [List.getElem?_append_right (by rw [hp]; exact Nat.le_refl _), hp]; rfl)
theorem HpAt.other {w w' : World} {b base : Nat} {pre : List Value} {Pr : Nat → Prop} {A : Option Addr} {n c : Nat} {U : List Int} (h : HpAt w b base pre Pr A n c U) {G : Nat → Prop} (k : KeepD G w w') (h1 : G b) (h2 : ∀ g, Value.ownBlock (.slice A n c) = some g → G g) : HpAt w' b base pre Pr A n c U :=
 ⟨k.2 _ _ h1 h.hd, own_keepD h.own k h2, h.len, h.pre, h.nb, h.ng, h.le⟩
theorem assert_int (v : Int) (w : World) : (Instr.typeAssert (.iface 3 (.int .i64 v)) 20 3 true).run Tryz.prog w = .ok (.tuple #[.int .i64 v, .bool true]) w := by kernel_rfl
set_option maxRecDepth 100000 in
set_option maxHeartbeats 4000000 in
theorem push223 {w : World} {b base : Nat} {pre : List Value} {Pr : Nat → Prop} {A : Option Addr} {n c : Nat} {U : List Int} (h : HpAt w b base pre Pr A n c U) (hn : n + 1 ≤ 1000000) (hPr : ∀ j, Pr j → j < w.heap.size) (hbase : base ≤ w.heap.size) (v : Int) :
  Calls Tryz.prog 223 #[.pointer (some ⟨b, 7, none⟩), .iface 3 (.int .i64 v)] w (RetPush b base pre Pr (n + 1) w (fun V => V = U ++ [v])) := by
 obtain ⟨i0, hi0, hz0, hz1, hz2⟩ := info_parts info3
 have H := Lib.hid h
 have HPR := Lib.hid hPr
 have c0 := h.cell
 have BI : Hid (Sl (w.alloc (.cells #[.int .i64 v] 3)) 1 (some ⟨w.heap.size, 0, none⟩) 1 1 ([v].map iv)) := builtS (w := w) (t := 3) 1 1 #[.int .i64 v] _ rfl rfl (by decide)
 have HA := Lib.hid (h.grew ((Grew.refl w).alloc (.cells #[.int .i64 v] 3)))
 have HK : Hid (KeepD Pr w (w.alloc (.cells #[.int .i64 v] 3))) := KeepD.grew ((Grew.refl w).alloc _)
 have hle := ((Grew.refl w).alloc (.cells #[.int .i64 v] 3)).le
 have hta := assert_int v
 clear h hPr
 go_enter Tryz.func223, Tryz.ntmps223
 go_wp2_with (at_builtin; refine wpList_append_sl _ rfl (.tmp 16) (.tmp 18) 129 rfl base 3 i0 (.int .i64 0) 1 8 Tryz.underlying129 hi0 hz0 hz1 hz2 rfl (by decide) (.slice A n c) n _ rfl HA.out.own (some ⟨w.heap.size, 0, none⟩) 1 1 _ rfl BI.out (iv_one _) (by unfold maxLen; omega) (by omega) (by omega) ?_; intro v7 w7 own7 hg7 hat7; obtain ⟨A7, c7, rfl⟩ := own_form own7; have HB7 := Lib.hid (HA.out.kept_hd hg7); have cw7 := hd_cell HB7.out HA.out.pre; have fw7 := HB7.out.frozen 7)
 have hpl := HA.out.pre
 have hne : ∀ g, Value.ownBlock (.slice A7 (n + 1) c7) = some g → ¬ Pr g ∧ g ≠ b := fun g hg => by
  rw [hg] at hat7
  rcases hat7 with e | e
  ·exact HA.out.ng g e.symm
  ·injection e with e
   have hbl := H.out.hd.lt
   refine ⟨fun hp => ?_, by omega⟩
   have := HPR.out g hp
   omega
 have own8 : (w7.setCell ⟨b, 7, none⟩ (.slice A7 (n + 1) c7)).ownsRow base 3 1 (.slice A7 (n + 1) c7) (n + 1) ((U ++ [v]).map iv) := by
  rw [List.map_append]
  refine own7.kept (grown_set w7 b 7 _) (.inr fun e => ?_)
  exact (hne b e).2 rfl
 have hd8 : Blk (w7.setCell ⟨b, 7, none⟩ (.slice A7 (n + 1) c7)) b 133 (pre ++ [.slice A7 (n + 1) c7]) := by
  rw [← set_last pre (.slice A n c) (.slice A7 (n + 1) c7) hpl]
  exact HB7.out.set 7 _
 have HK8 := keep_set (keep_grown HK.out hg7 (fun k hk => (HA.out.ng k hk).1)) HA.out.nb 7 (.slice A7 (n + 1) c7)
 go_end0
 exact ⟨A7, c7, U ++ [v], rfl, rfl, ⟨hd8, own8, by rw [List.length_append, HA.out.len]; rfl, hpl, HA.out.nb, hne, hn⟩, HK8⟩
theorem elem129 : Tryz.prog.underlying 129 = some (.slice (Tryz.prog.elem 129)) := by kernel_rfl
theorem size129e (w : World) : (Go.sizeOf (Tryz.prog.elem 129)).run Tryz.prog w = .ok 1 w := by kernel_rfl
set_option maxRecDepth 100000 in
set_option maxHeartbeats 4000000 in
theorem pop222 {w : World} {b base : Nat} {pre : List Value} {Pr : Nat → Prop} {A : Option Addr} {m c : Nat} {U : List Int} (h : HpAt w b base pre Pr A (m + 1) c U) :
  Calls Tryz.prog 222 #[.pointer (some ⟨b, 7, none⟩)] w fun e w' => e = .returned (.iface 3 (.int .i64 (U.getD m 0))) ∧ HpAt w' b base pre Pr A m c (U.take m) ∧ KeepD Pr w w' := by
 obtain ⟨g, rfl⟩ := h.form (by omega)
 obtain ⟨x, hx⟩ : ∃ x, U.getD m 0 = x := ⟨_, rfl⟩
 have H := Lib.hid h
 have c0 := h.cell
 have c1 := h.at_ (show m < m + 1 by omega)
 have hle := h.le
 have hcm : m + 1 ≤ c := (Sl.own h.own).1
 rw [hx] at c1 ⊢
 have hC : ∀ w', Grew w w' → w'.cell? ⟨b, 7, none⟩ = some (.slice (some ⟨g, 0, none⟩) (m + 1) c) ∧ w'.cell? ⟨g, m, none⟩ = some (.int .i64 x) := fun w' g' => ⟨g'.cell c0, g'.cell c1⟩
 have HC := Lib.hid hC
 have m1 : IntKind.i64.wrap (m : Int) = (m : Int) := IntWalk.i64_in _ (by omega)
 have m2 : (m : Int) + 1 - 1 = (m : Int) := by omega
 have e0 : (0 : Int) ≤ (m : Int) := by omega
 have e1 : (m : Int) < (m : Int) + 1 := by omega
 have r1 : ∀ x, (Instr.slice 129 (.slice (some ⟨g, 0, none⟩) (m + 1) c) none (some (.int .i64 (m : Int))) none).run Tryz.prog x = .ok (.slice (some ⟨g, 0, none⟩) m c) x := fun x => run_slice_head x 129 1 elem129 (size129e x) (some ⟨g, 0, none⟩) (m + 1) c m _ (by omega)
 clear hC c0 c1 h hx
 go_enter Tryz.func222, Tryz.ntmps222
 go_upto_region 1 with (fail)
 refine wp_region_seq (by kernel_rfl) Grew.refl (fun _ _ _ => Grew.trans) (fun _ _ _ _ _ h => h) (by kernel_rfl) ?_
 repeat (first
  | (refine TakeAll.pure (v := ?_) (by rfl) ?_ ?_; rotate_left; (intro w' g'; obtain ⟨q_0, q_1⟩ := HC.out w' ((Grew.refl w).drew.trans g'); go_simp; first | done | with_reducible rfl); (simp only [Act.put, uzT, uz0, uz1]))
  | (refine TakeAll.skip (by rfl) ?_; (simp only [Act.put, uzT, uz0, uz1])))
 refine TakeAll.nil ?_
 intro w1 g1
 have G1 := Lib.hid ((Grew.refl w).drew.trans g1)
 clear g1
 go_upto_region 2 with (fail)
 have HCb : Hid (∀ w', Grew w1.drew w' → Grew w w') := fun w' g' => G1.out.trans ((Grew.refl w1).drew.trans g')
 refine wp_region_G (by kernel_rfl) Grew.refl 14 ?_
 refine wpAnyG_takes Grew.refl (fun _ _ _ => Grew.trans) (fun _ _ _ _ _ h => h) [0, 1, 2, 3, 4, 5, 6, 7, 8, 9, 10, 11, 12, 13] (fuel' := 1) (by kernel_rfl) (by kernel_rfl) (by simp only [pickOps, ugT, ug0, ug1]; rfl) ?_
 repeat (first
  | (refine TakeAll.pure (v := ?_) (by rfl) ?_ ?_; rotate_left; (intro w' g'; obtain ⟨q_0, q_1⟩ := HC.out w' (HCb.out w' g'); go_simp; first | done | with_reducible rfl); (simp only [Act.put, uzT, uz0, uz1]))
  | (refine TakeAll.skip (by rfl) ?_; (simp only [Act.put, uzT, uz0, uz1])))
 refine TakeAll.nil ?_
 refine wpAnyG_end (by kernel_rfl) (fuel' := 0) (by kernel_rfl) (by simp only [pickOps, ugT, ug0, ug1]; rfl) rfl ?_
 intro w3 g3 K hK
 have G3 := HCb.out w3 g3
 have H3 := Lib.hid (H.out.grew G3)
 have cw := H3.out.cell
 have fw := H3.out.hd.frozen 7
 go_simp
 refine hK _ _ ?_
 clear hK K cw fw
 have hng := H3.out.ng g rfl
 have hpl := H3.out.pre
 have hd8 : Blk (w3.setCell ⟨b, 7, none⟩ (.slice (some ⟨g, 0, none⟩) m c)) b 133 (pre ++ [.slice (some ⟨g, 0, none⟩) m c]) := by
  rw [← set_last pre (.slice (some ⟨g, 0, none⟩) (m + 1) c) (.slice (some ⟨g, 0, none⟩) m c) hpl]
  exact H3.out.hd.set 7 _
 have own8 : (w3.setCell ⟨b, 7, none⟩ (.slice (some ⟨g, 0, none⟩) m c)).ownsRow base 3 1 (.slice (some ⟨g, 0, none⟩) m c) m ((U.take m).map iv) :=
  (own_less H3.out.own (by omega)).kept (grown_set w3 b 7 _) (.inr fun e => by injection e with e; exact hng.2 e)
 have HP8 : Hid (HpAt (w3.setCell ⟨b, 7, none⟩ (.slice (some ⟨g, 0, none⟩) m c)) b base pre Pr (some ⟨g, 0, none⟩) m c (U.take m)) :=
  ⟨hd8, own8, by rw [List.length_take, H3.out.len]; omega, hpl, H3.out.nb, fun g' hg' => by injection hg' with hg'; subst hg'; exact hng, by omega⟩
 have HK8 : Hid (KeepD Pr w (w3.setCell ⟨b, 7, none⟩ (.slice (some ⟨g, 0, none⟩) m c))) := keep_set (KeepD.grew G3) H3.out.nb 7 _
 clear hd8 own8
 refine wpAny_rest (fun _ _ _ _ _ h => h) [] (by kernel_rfl) (by kernel_rfl) (by kernel_rfl) rfl (TakeAll.nil ?_)
 go_wp2
 go_ret
 exact ⟨rfl, HP8.out, HK8.out⟩
/-- What a call that moves the numbers of a heap returns. -/
def RetMv (b base : Nat) (pre : List Value) (Pr : Nat → Prop) (A : Option Addr) (n c : Nat) (U : List Int) (w : World) (V : List Int → Prop) (w' : World) : Prop := ∃ U', U'.Perm U ∧ V U' ∧ HpAt w' b base pre Pr A n c U' ∧ KeepD Pr w w'
set_option maxRecDepth 100000 in
set_option maxHeartbeats 4000000 in
theorem up156 {w : World} {b base : Nat} {pre : List Value} {Pr : Nat → Prop} {g n c : Nat} {U : List Int} (h : HpAt w b base pre Pr (some ⟨g, 0, none⟩) n c U) {j : Nat} (hj : j < n) :
  Calls Tryz.prog 156 #[.iface 209 (.pointer (some ⟨b, 7, none⟩)), .int .i64 j] w fun e w' => e = .returned (.tuple #[]) ∧ RetMv b base pre Pr (some ⟨g, 0, none⟩) n c U w (fun _ => True) w' := by
 have H := Lib.hid h
 have hle := h.le
 clear h
 go_enter Tryz.func156, Tryz.ntmps156
 go_wp2_with fail
 go_loopw [1] (fun i y => ∃ (k : Nat) (V : List Int), k < n ∧ i = .int .i64 k ∧ Hid (V.Perm U) ∧ Hid (HpAt y b base pre Pr (some ⟨g, 0, none⟩) n c V) ∧ Hid (KeepD Pr w y)) (fun i _ => (intOf i).toNat)
 case atStart => exact ⟨j, U, hj, rfl, List.Perm.refl _, H.out, KeepD.refl _⟩
 case round =>
  clear H
  obtain ⟨k, V, hk, rfl, HP, H, HK⟩ := hrel
  by_cases hk0 : k = 0
  ·subst hk0
   go_wp2_with fail
   go_end0
   exact ⟨rfl, V, HP.out, trivial, H.out, HK.out⟩
  ·obtain ⟨i, hi⟩ : ∃ i, i = (k - 1) / 2 := ⟨_, rfl⟩
   have m1 : IntKind.i64.wrap ((k : Int) - 1) = (k : Int) - 1 := IntWalk.i64_in _ (by omega)
   have m2 : ((k : Int) - 1).tdiv 2 = (i : Int) := by rw [Int.tdiv_eq_ediv_of_nonneg (by omega)]; omega
   have m3 : IntKind.i64.wrap (i : Int) = (i : Int) := IntWalk.i64_in _ (by omega)
   have q1 : ((i : Int) == (k : Int)) = false := beq_eq_false_iff_ne.2 (by omega)
   have q2 : ¬ (i : Int) = (k : Int) := by omega
   have q3 : (i == k) = false := beq_eq_false_iff_ne.2 (by omega)
   have q4 : ¬ i = k := by omega
   have hin : i < n := by omega
   have hik : i < k := by omega
   have hmet := met_less H.out
   clear hi
   go_wp2_with fail
   refine (less206 H.out hk hin).mono ?_
   rintro r w1 ⟨rfl, g1⟩
   have H1 := Lib.hid (H.out.grew g1)
   have HK1 := Lib.hid (HK.out.trans (KeepD.grew g1))
   obtain ⟨t, ht⟩ : ∃ t, decide (V.getD k 0 < V.getD i 0) = t := ⟨_, rfl⟩
   rw [ht]
   clear hmet H HK g1 ht
   cases t with
   | false =>
    go_wp2_with fail
    go_end0
    exact ⟨rfl, V, HP.out, trivial, H1.out, HK1.out⟩
   | true =>
    have hmet := met_swap H1.out
    go_wp2_with fail
    refine (swap208 H1.out hin hk).mono ?_
    rintro r w2 ⟨rfl, h2, k2⟩
    have H2 := Lib.hid h2
    have HK2 := Lib.hid (HK1.out.trans k2)
    have HP2 := Lib.hid ((swp_perm (U := V) (i := i) (j := k) (by rw [H1.out.len]; exact hin) (by rw [H1.out.len]; exact hk)).trans HP.out)
    clear hmet H1 HK1 h2 k2
    go_wp2_with fail
    go_roundw
    case rel => exact ⟨i, _, hin, rfl, HP2.out, H2.out, HK2.out⟩
    case measure => simp [intOf]; omega
def RetHDn (b base : Nat) (pre : List Value) (Pr : Nat → Prop) (A : Option Addr) (n c : Nat) (U : List Int) (m : Nat) (w : World) (e : Ending) (w' : World) : Prop := ∃ t, e = .returned (.bool t) ∧ RetMv b base pre Pr A n c U w (fun V => ∀ x, m ≤ x → V[x]? = U[x]?) w'
set_option maxRecDepth 100000 in
set_option maxHeartbeats 8000000 in
theorem down141 {w : World} {b base : Nat} {pre : List Value} {Pr : Nat → Prop} {g n c : Nat} {U : List Int} (h : HpAt w b base pre Pr (some ⟨g, 0, none⟩) n c U) {m : Nat} (hm : m ≤ n) :
  Calls Tryz.prog 141 #[.iface 209 (.pointer (some ⟨b, 7, none⟩)), .int .i64 0, .int .i64 m] w (RetHDn b base pre Pr (some ⟨g, 0, none⟩) n c U m w) := by
 have H := Lib.hid h
 have hle := h.le
 clear h
 go_enter Tryz.func141, Tryz.ntmps141
 go_wp2_with fail
 go_loopw [7] (fun i y => ∃ (k : Nat) (V : List Int), k ≤ n ∧ i = .int .i64 k ∧ Hid (V.Perm U) ∧ Hid (∀ x, m ≤ x → V[x]? = U[x]?) ∧ Hid (HpAt y b base pre Pr (some ⟨g, 0, none⟩) n c V) ∧ Hid (KeepD Pr w y)) (fun i _ => m - (intOf i).toNat)
 case atStart => exact ⟨0, U, Nat.zero_le _, rfl, List.Perm.refl _, fun _ _ => rfl, H.out, KeepD.refl _⟩
 case round =>
  clear H
  obtain ⟨k, V, hk, rfl, HP, HO, H, HK⟩ := hrel
  obtain ⟨j1, hj1⟩ : ∃ j : Nat, j = 2 * k + 1 := ⟨_, rfl⟩
  obtain ⟨j2, hj2⟩ : ∃ j : Nat, j = 2 * k + 1 + 1 := ⟨_, rfl⟩
  have m1 : IntKind.i64.wrap (2 * (k : Int)) = 2 * (k : Int) := IntWalk.i64_in _ (by omega)
  have m2 : IntKind.i64.wrap (2 * (k : Int) + 1) = (j1 : Int) := by rw [show 2 * (k : Int) + 1 = (j1 : Int) by omega]; exact IntWalk.i64_in _ (by omega)
  have m3 : IntKind.i64.wrap ((j1 : Int) + 1) = (j2 : Int) := by rw [show (j1 : Int) + 1 = (j2 : Int) by omega]; exact IntWalk.i64_in _ (by omega)
  have q2 : decide ((j1 : Int) < 0) = false := decide_eq_false (by omega)
  have q2' : ¬ ((j1 : Int) < 0) := by omega
  by_cases hb : m ≤ j1
  ·have q1 : decide (m ≤ j1) = true := decide_eq_true hb
   clear hj1 hj2
   go_wp2
   go_ret
   exact ⟨_, rfl, V, HP.out, HO.out, H.out, HK.out⟩
  ·have q1 : decide (m ≤ j1) = false := decide_eq_false hb
   have HJ : Hid (k < j1 ∧ k < n ∧ j1 < m ∧ j2 = j1 + 1) := ⟨by omega, by omega, by omega, by omega⟩
   clear hj1 hj2
   by_cases hc : j2 < m
   ·have q3 : decide (j2 < m) = true := decide_eq_true hc
    have hmet := met_less H.out
    go_wp2_with fail
    refine (less206 H.out (i := j2) (j := j1) (by omega) (by have := HJ.out; omega)).mono ?_
    rintro r w2 ⟨rfl, g2⟩
    have H2 := Lib.hid (H.out.grew g2)
    have HK2 := Lib.hid (HK.out.trans (KeepD.grew g2))
    obtain ⟨t2, ht2⟩ : ∃ t, decide (V.getD j2 0 < V.getD j1 0) = t := ⟨_, rfl⟩
    rw [ht2]
    clear hmet H HK g2 ht2
    cases t2 with
    | false =>
     have hmet2 := met_less H2.out
     go_wp2_with fail
     refine (less206 H2.out (i := j1) (j := k) (by have := HJ.out; omega) (by have := HJ.out; omega)).mono ?_
     rintro r w3 ⟨rfl, g3⟩
     have H3 := Lib.hid (H2.out.grew g3)
     have HK3 := Lib.hid (HK2.out.trans (KeepD.grew g3))
     obtain ⟨t3, ht3⟩ : ∃ t, decide (V.getD j1 0 < V.getD k 0) = t := ⟨_, rfl⟩
     rw [ht3]
     clear hmet2 H2 HK2 g3 ht3
     cases t3 with
     | false =>
      go_wp2
      go_ret
      exact ⟨_, rfl, V, HP.out, HO.out, H3.out, HK3.out⟩
     | true =>
      have hmet3 := met_swap H3.out
      go_wp2_with fail
      refine (swap208 H3.out (i := k) (j := j1) (by have := HJ.out; omega) (by have := HJ.out; omega)).mono ?_
      rintro r w4 ⟨rfl, h4, k4⟩
      have H4 := Lib.hid h4
      have HK4 := Lib.hid (HK3.out.trans k4)
      have HP4 := Lib.hid ((swp_perm (U := V) (i := k) (j := j1) (by rw [H3.out.len]; have := HJ.out; omega) (by rw [H3.out.len]; have := HJ.out; omega)).trans HP.out)
      have HO4 : Hid (∀ x, m ≤ x → (swp V k j1)[x]? = U[x]?) := fun x hx => (swp_other (by have := HJ.out; omega) (by have := HJ.out; omega)).trans (HO.out x hx)
      clear hmet3 H3 HK3 h4 k4
      go_wp2_with fail
      go_roundw
      case rel => exact ⟨j1, _, by have := HJ.out; omega, by go_num, HP4.out, HO4.out, H4.out, HK4.out⟩
      case measure => have := HJ.out; simp [intOf]; omega
    | true =>
     have hmet2 := met_less H2.out
     go_wp2_with fail
     refine (less206 H2.out (i := j2) (j := k) (by have := HJ.out; omega) (by have := HJ.out; omega)).mono ?_
     rintro r w3 ⟨rfl, g3⟩
     have H3 := Lib.hid (H2.out.grew g3)
     have HK3 := Lib.hid (HK2.out.trans (KeepD.grew g3))
     obtain ⟨t3, ht3⟩ : ∃ t, decide (V.getD j2 0 < V.getD k 0) = t := ⟨_, rfl⟩
     rw [ht3]
     clear hmet2 H2 HK2 g3 ht3
     cases t3 with
     | false =>
      go_wp2
      go_ret
      exact ⟨_, rfl, V, HP.out, HO.out, H3.out, HK3.out⟩
     | true =>
      have hmet3 := met_swap H3.out
      go_wp2_with fail
      refine (swap208 H3.out (i := k) (j := j2) (by have := HJ.out; omega) (by have := HJ.out; omega)).mono ?_
      rintro r w4 ⟨rfl, h4, k4⟩
      have H4 := Lib.hid h4
      have HK4 := Lib.hid (HK3.out.trans k4)
      have HP4 := Lib.hid ((swp_perm (U := V) (i := k) (j := j2) (by rw [H3.out.len]; have := HJ.out; omega) (by rw [H3.out.len]; have := HJ.out; omega)).trans HP.out)
      have HO4 : Hid (∀ x, m ≤ x → (swp V k j2)[x]? = U[x]?) := fun x hx => (swp_other (by have := HJ.out; omega) (by have := HJ.out; omega)).trans (HO.out x hx)
      clear hmet3 H3 HK3 h4 k4
      go_wp2_with fail
      go_roundw
      case rel => exact ⟨j2, _, by have := HJ.out; omega, by go_num, HP4.out, HO4.out, H4.out, HK4.out⟩
      case measure => have := HJ.out; simp [intOf]; omega
   ·have q3 : decide (j2 < m) = false := decide_eq_false hc
    have H2 := H
    have HK2 := HK
    clear H HK
    have hmet2 := met_less H2.out
    go_wp2_with fail
    refine (less206 H2.out (i := j1) (j := k) (by have := HJ.out; omega) (by have := HJ.out; omega)).mono ?_
    rintro r w3 ⟨rfl, g3⟩
    have H3 := Lib.hid (H2.out.grew g3)
    have HK3 := Lib.hid (HK2.out.trans (KeepD.grew g3))
    obtain ⟨t3, ht3⟩ : ∃ t, decide (V.getD j1 0 < V.getD k 0) = t := ⟨_, rfl⟩
    rw [ht3]
    clear hmet2 H2 HK2 g3 ht3
    cases t3 with
    | false =>
     go_wp2
     go_ret
     exact ⟨_, rfl, V, HP.out, HO.out, H3.out, HK3.out⟩
    | true =>
     have hmet3 := met_swap H3.out
     go_wp2_with fail
     refine (swap208 H3.out (i := k) (j := j1) (by have := HJ.out; omega) (by have := HJ.out; omega)).mono ?_
     rintro r w4 ⟨rfl, h4, k4⟩
     have H4 := Lib.hid h4
     have HK4 := Lib.hid (HK3.out.trans k4)
     have HP4 := Lib.hid ((swp_perm (U := V) (i := k) (j := j1) (by rw [H3.out.len]; have := HJ.out; omega) (by rw [H3.out.len]; have := HJ.out; omega)).trans HP.out)
     have HO4 : Hid (∀ x, m ≤ x → (swp V k j1)[x]? = U[x]?) := fun x hx => (swp_other (by have := HJ.out; omega) (by have := HJ.out; omega)).trans (HO.out x hx)
     clear hmet3 H3 HK3 h4 k4
     go_wp2_with fail
     go_roundw
     case rel => exact ⟨j1, _, by have := HJ.out; omega, by go_num, HP4.out, HO4.out, H4.out, HK4.out⟩
     case measure => have := HJ.out; simp [intOf]; omega
def RetHp (b base : Nat) (pre : List Value) (Pr : Nat → Prop) (n : Nat) (U : List Int) (w : World) (e : Ending) (w' : World) : Prop := ∃ A c V, e = .returned (.tuple #[]) ∧ V.Perm U ∧ HpAt w' b base pre Pr A n c V ∧ KeepD Pr w w'
set_option maxRecDepth 100000 in
set_option maxHeartbeats 4000000 in
theorem hpush140 {w : World} {b base : Nat} {pre : List Value} {Pr : Nat → Prop} {A : Option Addr} {n c : Nat} {U : List Int} (h : HpAt w b base pre Pr A n c U) (hn : n + 1 ≤ 1000000) (hPr : ∀ j, Pr j → j < w.heap.size) (hbase : base ≤ w.heap.size) (v : Int) :
  Calls Tryz.prog 140 #[.iface 209 (.pointer (some ⟨b, 7, none⟩)), .iface 3 (.int .i64 v)] w (RetHp b base pre Pr (n + 1) (U ++ [v]) w) := by
 have H := Lib.hid h
 have HPR := Lib.hid hPr
 have hmet := met_push w b 7
 clear h hPr
 go_enter Tryz.func140, Tryz.ntmps140
 go_wp2_with fail
 refine (push223 H.out hn HPR.out hbase v).mono ?_
 rintro r w1 ⟨A1, c1, U1, rfl, rfl, h1, k1⟩
 obtain ⟨g, rfl⟩ := h1.form (by omega)
 have H1 := Lib.hid h1
 have HK1 := Lib.hid k1
 clear hmet H h1 k1
 have hmet := met_len H1.out
 go_wp2_with fail
 refine (len112 _ _ _ w1).mono ?_
 rintro r w2 ⟨rfl, rfl⟩
 clear hmet
 have m1 : IntKind.i64.wrap (n : Int) = (n : Int) := IntWalk.i64_in _ (by omega)
 have m2 : (n : Int) + 1 - 1 = (n : Int) := by omega
 go_wp2_with fail
 refine (up156 H1.out (j := n) (by omega)).mono ?_
 rintro r w3 ⟨rfl, V, hv, _, h3, k3⟩
 have H3 := Lib.hid h3
 have HK3 := Lib.hid (HK1.out.trans k3)
 clear H1 HK1 h3 k3 m1 m2
 go_wp2_with fail
 go_end0
 exact ⟨_, _, V, rfl, hv, H3.out, HK3.out⟩
/-- What Pop of a heap returns: the first number, which is taken away. -/
def RetPp (b base : Nat) (pre : List Value) (Pr : Nat → Prop) (n : Nat) (u : Int) (T : List Int) (w : World) (e : Ending) (w' : World) : Prop := ∃ A c V, e = .returned (.iface 3 (.int .i64 u)) ∧ V.Perm T ∧ HpAt w' b base pre Pr A n c V ∧ KeepD Pr w w'
set_option maxRecDepth 100000 in
set_option maxHeartbeats 4000000 in
theorem hpop113 {w : World} {b base : Nat} {pre : List Value} {Pr : Nat → Prop} {A : Option Addr} {m c : Nat} {u : Int} {T : List Int} (h : HpAt w b base pre Pr A (m + 1) c (u :: T)) :
  Calls Tryz.prog 113 #[.iface 209 (.pointer (some ⟨b, 7, none⟩))] w (RetPp b base pre Pr m u T w) := by
 obtain ⟨g, rfl⟩ := h.form (by omega)
 have H := Lib.hid h
 have hle := h.le
 have hlen := h.len
 clear h
 have hmet := met_len H.out
 go_enter Tryz.func113, Tryz.ntmps113
 go_wp2_with fail
 refine (len112 _ _ _ w).mono ?_
 rintro r w1 ⟨rfl, rfl⟩
 clear hmet
 have m1 : IntKind.i64.wrap (m : Int) = (m : Int) := IntWalk.i64_in _ (by omega)
 have m2 : (m : Int) + 1 - 1 = (m : Int) := by omega
 have hmet := met_swap H.out
 go_wp2_with fail
 refine (swap208 H.out (i := 0) (j := m) (by omega) (by omega)).mono ?_
 rintro r w2 ⟨rfl, h2, k2⟩
 have H2 := Lib.hid h2
 have HK2 := Lib.hid k2
 clear hmet H h2 k2
 go_wp2_with fail
 refine (down141 H2.out (m := m) (by omega)).mono ?_
 rintro r w3 ⟨tt, rfl, V, hv, ho, h3, k3⟩
 have H3 := Lib.hid h3
 have HK3 := Lib.hid (HK2.out.trans k3)
 have HV : Hid (V.getD m 0 = u ∧ (V.take m).Perm T) := by
  have hl : V.length = m + 1 := h3.len
  have h1 : V[m]? = some u := (ho m (Nat.le_refl _)).trans (swp_right (by rw [hlen]; omega))
  refine ⟨by rw [List.getD_eq_getElem?_getD, h1]; rfl, ?_⟩
  have h2 : V.take m ++ [u] = V := by
   have := List.take_append_drop m V
   rw [List.drop_eq_getElem_cons (by omega), List.drop_eq_nil_of_le (by omega)] at this
   rw [List.getElem?_eq_getElem (by omega)] at h1
   injection h1 with h1
   rw [h1] at this
   exact this
  have h4 : (V.take m ++ [u]).Perm (u :: T) := by rw [h2]; exact hv.trans (swp_perm (by rw [hlen]; omega) (by rw [hlen]; omega))
  exact List.Perm.cons_inv ((List.perm_append_singleton u (V.take m)).symm.trans h4)
 clear H2 HK2 h3 k3 hv ho
 have hmet := met_pop w3 b 7
 go_wp2_with fail
 refine (pop222 H3.out).mono ?_
 rintro r w4 ⟨rfl, h4, k4⟩
 have H4 := Lib.hid h4
 have HK4 := Lib.hid (HK3.out.trans k4)
 rw [HV.out.1]
 clear hmet H3 HK3 h4 k4 m1 m2
 go_wp2
 go_ret
 exact ⟨_, _, _, rfl, HV.out.2, H4.out, HK4.out⟩
end Go.Proofs.YtnnbibmmofnkdaaGreat
