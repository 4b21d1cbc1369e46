/-
 The violations of a roster: sorted, compacted.
-/
import Derived.Test.YtnnbibmmofnkdaaGreatBad
namespace Go.Proofs.YtnnbibmmofnkdaaGreat
open Go.RowKit Go.Proofs WageMem WageReg WageRec WageSpan WageTop
open Go.Sort
instance : Inhabited Vi := ⟨⟨0, 0, 0, 0⟩⟩
theorem flatV_len (vs : List Vi) : (vs.flatMap encV).length = vs.length * 4 := WageRec.flat_len encV_ok vs
theorem flatV_get (vs : List Vi) (j : Nat) (hj : j < vs.length * 4) : (vs.flatMap encV)[j]? = some ((encV vs.toArray[j / 4]!)[j % 4]!) := by
 have hk : j / 4 < vs.length := by omega
 have h1 : vs.toArray[j / 4]! = vs[j / 4] := by rw [getElem!_pos vs.toArray (j / 4) (by simpa using hk)]; simp
 have h2 : (encV vs[j / 4])[j % 4]? = some ((encV vs[j / 4])[j % 4]!) := by
  have hl : j % 4 < (encV vs[j / 4]).length := by have : (encV vs[j / 4]).length = 4 := rfl; omega
  rw [List.getElem?_eq_getElem hl, getElem!_pos (encV vs[j / 4]) (j % 4) hl]
 have h3 := WageRec.flat_at encV_ok (List.getElem?_eq_getElem hk) h2
 rw [show j / 4 * 4 + j % 4 = j by omega] at h3
 rw [h3, h1]
theorem sortV_heap {w : World} {g n : Nat} {d : Array Vi} {os : Array Obj} {k : Nat} (hl : k < w.heap.size) : (sortWorldK encV 4 w g 0 n d os).heap[k]? = if k = g then (w.heap[k]?).map (onCells (putCells id 0 (flatK encV 4 d))) else w.heap[k]? := by
 unfold sortWorldK putRowK putRow
 show ((mapBlock (Sort.ahead w n) g _).heap ++ os)[k]? = _
 have hs : (mapBlock (Sort.ahead w n) g (putCells id 0 (flatK encV 4 d))).heap.size = w.heap.size := by simp [mapBlock, Sort.ahead]
 rw [Array.getElem?_append_left (by rw [hs]; exact hl)]
 simp only [mapBlock, Sort.ahead]
 rw [Array.getElem?_modify]
 by_cases h : k = g
 ·rw [if_pos h, if_pos h.symm]
 ·rw [if_neg h, if_neg (fun e => h e.symm)]
theorem sortV_grew {w0 w : World} {g n : Nat} {d : Array Vi} {os : Array Obj} (h : Grew w0 w) (hg : w0.heap.size ≤ g) : Grew w0 (sortWorldK encV 4 w g 0 n d os) := by
 refine ⟨h.os, h.tape, h.output, Nat.le_trans h.size (size_sortWorldK_c encV 4 w g 0 n d os), fun k hk => ?_⟩
 rw [sortV_heap (Nat.lt_of_lt_of_le hk h.size), if_neg (by omega)]
 exact h.below.block k hk
theorem own_sorted {w : World} {base g n c : Nat} {xs : List Value} (h : w.ownsRow base 109 4 (.slice (some ⟨g, 0, none⟩) n c) n xs) {d : Array Vi} (hd : d.size = n) (m : Nat) (os : Array Obj) (hh : HoldsK encV 4 (sortWorldK encV 4 w g 0 m d os) g 0 d) :
  (sortWorldK encV 4 w g 0 m d os).ownsRow base 109 4 (.slice (some ⟨g, 0, none⟩) n c) n (d.toList.flatMap encV) := by
 have hlt := (h.lt g rfl).2
 refine ⟨by rw [flatV_len]; simp [hd], ?_⟩
 rcases h.2 with ⟨hv, _⟩ | ⟨g', cap, cur, hv, hb, hg, hnc, hcm, hcs, ht⟩
 ·cases hv
 injection hv with e1 e2 e3
 injection e1 with e1
 injection e1 with e1
 subst e1 e3
 have hnew : (sortWorldK encV 4 w g 0 m d os).heap[g]? = some (.cells (putCells id 0 (flatK encV 4 d) cur) 109 (0, 0)) := by
  rw [sortV_heap hlt, if_pos rfl, hg]; rfl
 have hsz : (putCells id 0 (flatK encV 4 d) cur).size = c * 4 := by rw [← hcs]; unfold putCells; simp
 refine .inr ⟨g, c, _, rfl, hb, hnew, hnc, hcm, hsz, ?_⟩
 apply List.ext_getElem?
 intro j
 by_cases hj : j < n * 4
 ·rw [List.getElem?_take, if_pos hj, flatV_get _ j (by simpa [hd] using hj)]
  have h1 := (hh j (by rw [size_flatK]; omega)).1
  rw [get_flatK _ _ _ _ (by rw [hd]; exact hj), Nat.zero_add, cell_of_row _ g j _ 109 (0, 0) hnew] at h1
  simpa using h1
 ·rw [List.getElem?_eq_none (by rw [List.length_take]; omega), List.getElem?_eq_none (by rw [flatV_len]; simp [hd]; omega)]
theorem sort44 {w0 w : World} {g n c : Nat} {vs : List Vi} (h : w.ownsRow w0.heap.size 109 4 (.slice (some ⟨g, 0, none⟩) n c) n (vs.flatMap encV)) (hn : vs.length = n) (hl : n ≤ 1000000000) (g0 : Grew w0 w) :
  Calls Tryz.prog 44 #[.slice (some ⟨g, 0, none⟩) n c, .func (.func 45) #[] #[]] w fun e w' => e = .returned (.tuple #[]) ∧ ∃ vs' : List Vi, vs'.length = n ∧ w'.ownsRow w0.heap.size 109 4 (.slice (some ⟨g, 0, none⟩) n c) n (vs'.flatMap encV) ∧ Grew w0 w' := by
 have eg : ∀ args w, (callFunc 45 args).run Tryz.prog w = .ok (.enter 45 args) w := enters_of Tryz.func45 (by kernel_rfl) rfl
 have hsz : vs.toArray.size = n := by simpa using hn
 have hgl := h.lt g rfl
 have hH : HoldsK encV 4 w g 0 vs.toArray := by
  intro j hj
  rw [size_flatK] at hj
  have hj' : j < vs.length * 4 := by simpa using hj
  rw [get_flatK _ _ _ _ hj, Nat.zero_add]
  exact own_cells h (flatV_get vs j hj')
 have hcon := AnyQ.slices_SortFunc Tryz.sortV 4 Tryz.isAgg109 Tryz.sizeOf109 encV (fun _ => rfl) (fun x v hv => encV_ok.one x v hv) vcmp swo_v 45 #[] g 0 c vs.toArray w eg
  (fun m os dk _ x y => cmp45 x y _) hH hgl.2 (by rw [hsz]; omega)
 rw [hsz] at hcon
 refine Calls.mono hcon ?_
 rintro e w2 ⟨rfl, d', m, os, hp, hs, rfl⟩
 have hds : d'.size = n := by rw [hp.1, hsz]
 exact ⟨rfl, d'.toList, by simpa using hds, own_sorted h hds m os (holdsK_sortWorldK_c encV 4 w g 0 vs.toArray d' m os hH hgl.2 hp.1), sortV_grew g0 hgl.1⟩
theorem set_flat : ∀ (l : List Vi) (k : Nat) (x : Vi), k < l.length → ((((l.flatMap encV).set (k * 4) (.int .i64 x.k)).set (k * 4 + 1) (.int .i64 x.w)).set (k * 4 + 2) (.int .i64 x.a)).set (k * 4 + 3) (.int .i64 x.b) = (l.set k x).flatMap encV
 | [], _, _, h => by cases h
 | y :: l, 0, x, _ => by simp [encV]
 | y :: l, k + 1, x, h => by
  have ih := set_flat l k x (by simpa using h)
  have e : ∀ i, (k + 1) * 4 + i = k * 4 + i + 1 + 1 + 1 + 1 := fun i => by omega
  have e0 : (k + 1) * 4 = k * 4 + 1 + 1 + 1 + 1 := by omega
  rw [List.flatMap_cons, uz1, List.flatMap_cons, ← ih, e 1, e 2, e 3, e0]
  simp only [encV, List.cons_append, List.nil_append, uz1]
theorem own_vi {w : World} {base g n c : Nat} {vs : List Vi} (h : w.ownsRow base 109 4 (.slice (some ⟨g, 0, none⟩) n c) n (vs.flatMap encV)) {k : Nat} {x : Vi} (hx : vs[k]? = some x) :
  w.cell? ⟨g, k * 4, none⟩ = some (.int .i64 x.k) ∧ w.cell? ⟨g, k * 4 + 1, none⟩ = some (.int .i64 x.w) ∧ w.cell? ⟨g, k * 4 + 2, none⟩ = some (.int .i64 x.a) ∧ w.cell? ⟨g, k * 4 + 3, none⟩ = some (.int .i64 x.b) :=
 ⟨(own_cells h (WageRec.flat_at encV_ok hx (j := 0) rfl)).1, (own_cells h (WageRec.flat_at encV_ok hx (j := 1) rfl)).1, (own_cells h (WageRec.flat_at encV_ok hx (j := 2) rfl)).1, (own_cells h (WageRec.flat_at encV_ok hx (j := 3) rfl)).1⟩
theorem there_vi {w : World} {base g n c : Nat} {vs : List Vi} (h : w.ownsRow base 109 4 (.slice (some ⟨g, 0, none⟩) n c) n (vs.flatMap encV)) (hl : vs.length = n) {o m : Nat} (ho : o + m ≤ n * 4) : w.there g o m := fun j hj => by
 have := own_cells h (flatV_get vs (o + j) (by omega))
 exact ⟨by rw [this.1]; rfl, this.2⟩
theorem set_vi {w : World} {base g n c : Nat} {vs : List Vi} (h : w.ownsRow base 109 4 (.slice (some ⟨g, 0, none⟩) n c) n (vs.flatMap encV)) {k : Nat} (hk : k < vs.length) (x : Vi) : (w.setCells g (k * 4) [.int .i64 x.k, .int .i64 x.w, .int .i64 x.a, .int .i64 x.b]).ownsRow base 109 4 (.slice (some ⟨g, 0, none⟩) n c) n ((vs.set k x).flatMap encV) := by
 rw [← set_flat vs k x hk]
 exact ((((h.stored (k * 4) _).1.stored (k * 4 + 1) _).1.stored (k * 4 + 2) _).1.stored (k * 4 + 3) _).1
theorem grew_setCells {w0 : World} {b : Nat} (hb : w0.heap.size ≤ b) : ∀ (vs : List Value) (o : Nat) (w : World), Grew w0 w → Grew w0 (w.setCells b o vs)
 | [], _, _, h => h
 | v :: r, o, w, h => by
  rw [World.setCells]
  exact grew_setCells hb r (o + 1) _ (h.grown (grown_set w b o v) fun q hq => by injection hq with hq; omega)
theorem elem57 : Tryz.prog.underlying 57 = some (.slice (Tryz.prog.elem 57)) := by kernel_rfl
theorem size109s (w : World) : (Go.sizeOf (Tryz.prog.elem 57)).run Tryz.prog w = .ok 4 w := by kernel_rfl
theorem tail_at {g c k : Nat} (h : k < c) : tailA (some ⟨g, 0, none⟩) c k 4 = some ⟨g, k * 4, none⟩ := by
 unfold tailA
 rw [if_neg (by omega)]
 show some ((⟨g, 0, none⟩ : Addr).add (k * 4)) = _
 rw [addr_add_plain, Nat.zero_add]
theorem run_clear109 (w : World) (b o n c : Nat) (hn : 0 < n) (ht : w.there b o (n * 4)) : ∃ L : List Value, ∀ ty, (Builtin.clear_ #[57] ty #[.slice (some ⟨b, o, none⟩) n c]).run Tryz.prog w = .ok (.tuple #[]) (w.setCells b o L) := by
 refine ⟨(Builtin.zeroCells #[.int .i64 0, .int .i64 0, .int .i64 0, .int .i64 0] n).toList, fun ty => ?_⟩
 have hlen : (Builtin.zeroCells #[.int .i64 0, .int .i64 0, .int .i64 0, .int .i64 0] n).toList.length = n * 4 := by simp [Builtin.zeroCells]
 have hone : ∀ v ∈ (Builtin.zeroCells #[.int .i64 0, .int .i64 0, .int .i64 0, .int .i64 0] n).toList, v.oneCell' = true := by
  intro v hv
  simp only [Builtin.zeroCells, Array.toList_map, List.mem_map] at hv
  obtain ⟨i, _, rfl⟩ := hv
  have : ∀ j, j < 4 → (#[Value.int .i64 0, .int .i64 0, .int .i64 0, .int .i64 0] : Array Value)[j]!.oneCell' = true := by
   intro j hj
   match j, hj with
   | 0, _ => rfl
   | 1, _ => rfl
   | 2, _ => rfl
   | 3, _ => rfl
  exact this _ (Nat.mod_lt _ (by decide))
 have hst := run_storeCells_cells (P := Tryz.prog) b o _ 0 w (fun j hj => by simpa using (ht j (by rw [hlen] at hj; exact hj)).1) (fun j hj => by simpa using (ht j (by rw [hlen] at hj; exact hj)).2) hone
 simp only [Nat.add_zero] at hst
 obtain ⟨m, rfl⟩ : ∃ m, n = m + 1 := ⟨n - 1, by omega⟩
 simp [Builtin.clear_, run_underlying Tryz.underlying57, Value.cells, hst]
/-- What Compact returns: a slice that is empty exactly if the first one was. -/
def RetCp (n : Nat) (w0 : World) (e : Ending) (w' : World) : Prop := ∃ (A : Option Addr) (m c : Nat), e = .returned (.slice A m c) ∧ (m = 0 ↔ n = 0) ∧ Grew w0 w'
set_option maxRecDepth 100000 in
set_option maxHeartbeats 8000000 in
theorem compact48 {w0 w : World} {g n c : Nat} {vs : List Vi} (h : w.ownsRow w0.heap.size 109 4 (.slice (some ⟨g, 0, none⟩) n c) n (vs.flatMap encV)) (hv : vs.length = n) (hn : n ≤ 1000000000) (g0 : Grew w0 w) :
  Calls Tryz.prog 48 #[.slice (some ⟨g, 0, none⟩) n c] w (RetCp n w0) := by
 have OW := Lib.hid h
 have HV := Lib.hid hv
 have HG0 := Lib.hid g0
 have HGB : Hid (w0.heap.size ≤ g) := (h.lt g rfl).1
 have hnc : n ≤ c ∧ c ≤ maxLen := ⟨(Sl.own h).1, (Sl.own h).2.1⟩
 have hc9 : c ≤ 9223372036854775807 := by have := hnc.2; unfold maxLen at this; omega
 have hnc1 := hnc.1
 clear h hv g0 hnc
 go_enter Tryz.func48, Tryz.ntmps48
 by_cases h2 : n < 2
 ·have r1 : decide ((n : Int) < 2) = true := decide_eq_true (by omega)
  have r2 : decide (n < 2) = true := decide_eq_true h2
  go_wp2
  go_ret
  exact ⟨some ⟨g, 0, none⟩, n, c, rfl, Iff.rfl, HG0.out⟩
 ·have r1 : decide ((n : Int) < 2) = false := decide_eq_false (by omega)
  have r2 : decide (n < 2) = false := decide_eq_false h2
  have h2 : 2 ≤ n := by omega
  go_wp2_with fail
  clear r1 r2
  go_loopw [3] (fun i y => ∃ k : Nat, 1 ≤ k ∧ k ≤ n ∧ i = .int .i64 k ∧ Hid (Grew w y)) (fun i _ => n - (intOf i).toNat)
  case atStart => exact ⟨1, by omega, by omega, rfl, Grew.refl _⟩
  case round =>
   obtain ⟨k, hk1, hk, rfl, HR⟩ := hrel
   have OWr := Lib.hid (own_grew OW.out HR.out)
   have HGr := Lib.hid (HG0.out.trans HR.out)
   by_cases hlt : k < n
   ·obtain ⟨x, hx⟩ : ∃ x, vs[k]? = some x := ⟨_, List.getElem?_eq_getElem (by rw [HV.out]; exact hlt)⟩
    obtain ⟨y, hy⟩ : ∃ y, vs[k - 1]? = some y := ⟨_, List.getElem?_eq_getElem (by rw [HV.out]; omega)⟩
    have cx := own_vi OWr.out hx
    have cy := own_vi OWr.out hy
    obtain ⟨bq, hbq⟩ : ∃ z, eqT109 x.k y.k x.w y.w x.a y.a x.b y.b = z := ⟨_, rfl⟩
    have HBQ := Lib.hid hbq
    have m1 : IntKind.i64.wrap ((k : Int) - 1) = (k : Int) - 1 := IntWalk.i64_in _ (by omega)
    have m2 : ((k : Int) - 1).toNat = k - 1 := by omega
    have e1 : (0 : Int) ≤ (k : Int) := by omega
    have e2 : (k : Int) < (n : Int) := by omega
    have e3 : (0 : Int) ≤ (k : Int) - 1 := by omega
    have e4 : (k : Int) - 1 < (n : Int) := by omega
    have e5 : (1 : Int) ≤ (k : Int) := by omega
    have hA : ∀ w', Grew wr.drew w' → (w'.cell? ⟨g, k * 4, none⟩ = some (.int .i64 x.k) ∧ w'.cell? ⟨g, k * 4 + 1, none⟩ = some (.int .i64 x.w) ∧ w'.cell? ⟨g, k * 4 + 2, none⟩ = some (.int .i64 x.a) ∧ w'.cell? ⟨g, k * 4 + 3, none⟩ = some (.int .i64 x.b)) ∧ w'.cell? ⟨g, (k - 1) * 4, none⟩ = some (.int .i64 y.k) ∧ w'.cell? ⟨g, (k - 1) * 4 + 1, none⟩ = some (.int .i64 y.w) ∧ w'.cell? ⟨g, (k - 1) * 4 + 2, none⟩ = some (.int .i64 y.a) ∧ w'.cell? ⟨g, (k - 1) * 4 + 3, none⟩ = some (.int .i64 y.b) := fun w' g' => by
     have gg := (Grew.refl wr).drew.trans g'
     exact ⟨⟨gg.cell cx.1, gg.cell cx.2.1, gg.cell cx.2.2.1, gg.cell cx.2.2.2⟩, gg.cell cy.1, gg.cell cy.2.1, gg.cell cy.2.2.1, gg.cell cy.2.2.2⟩
    have HA := Lib.hid hA
    clear hx hy cx cy hbq hA
    go_upto_region 6 with (fail)
    refine wp_region_seq (by kernel_rfl) Grew.refl (fun _ _ _ => Grew.trans) (fun _ _ _ _ _ h => h) (by kernel_rfl) ?_
    repeat (first
     | (refine TakeAll.pure (v := ?_) (by rfl) ?_ ?_; rotate_left; (intro w' g'; obtain ⟨⟨q0, q1, q2, q3⟩, q4, q5, q6, q7⟩ := HA.out w' g'; go_simp; first | done | with_reducible rfl); (simp only [Act.put, uzT, uz0, uz1]))
     | (refine TakeAll.pure (v := .bool bq) (by rfl) (fun w' _ => exec_eql109 HBQ.out rfl rfl rfl w') ?_; (simp only [Act.put, uzT, uz0, uz1])))
    refine TakeAll.nil ?_
    intro w5 g5
    have G5 := Lib.hid (HR.out.trans ((Grew.refl wr).drew.trans g5))
    have HG5 := Lib.hid (HG0.out.trans G5.out)
    have OW5 := Lib.hid (own_grew OW.out G5.out)
    clear g5 HA HBQ m1 m2 e3 e4 e5 OWr HGr
    cases bq with
    | false =>
     go_wp2_with fail
     go_roundw
     case rel => exact ⟨k + 1, by omega, by omega, by go_num, G5.out⟩
     case measure => simp [intOf]; omega
    | true =>
     have r1 : ∀ x, (Instr.slice 57 (.slice (some ⟨g, 0, none⟩) n c) (some (.int .i64 (k : Int))) none none).run Tryz.prog x = .ok (.slice (tailA (some ⟨g, 0, none⟩) c k 4) (n - k) (c - k)) x := fun x => run_slice_tail x 57 4 elem57 (size109s x) (some ⟨g, 0, none⟩) n c k _ hk
     rw [tail_at (show k < c by omega)] at r1
     obtain ⟨m, hm⟩ : ∃ m, n - k = m := ⟨_, rfl⟩
     obtain ⟨mc, hmc⟩ : ∃ m, c - k = m := ⟨_, rfl⟩
     rw [hm, hmc] at r1
     have HKM : Hid (k + m = n) := by unfold Hid; omega
     have hm1 : 1 ≤ m := by omega
     have hm9 : m ≤ 1000000000 := by omega
     clear hm hmc
     go_upto_region 8 with (fail)
     clear r1
     go_wp2_with fail
     go_loopw [3, 5] (fun s i y => ∃ (K j : Nat) (vs' : List Vi), s = .int .i64 K ∧ i = .int .i64 j ∧ (k ≤ K ∧ K + 1 ≤ k + j ∧ 1 ≤ j ∧ j ≤ m) ∧ Hid (vs'.length = n) ∧ Hid (y.ownsRow w0.heap.size 109 4 (.slice (some ⟨g, 0, none⟩) n c) n (vs'.flatMap encV)) ∧ Hid (Grew w0 y)) (fun _ i _ => m - (intOf i).toNat)
     case atStart => exact ⟨k, 1, vs, rfl, rfl, by omega, HV.out, OW5.out, HG5.out⟩
     case round =>
      clear OW5 HG5 OW HV
      obtain ⟨K, j, vs', rfl, rfl, ⟨hK1, hK2, hj1, hj⟩, HV, OW, HG⟩ := hrel
      by_cases hjt : j < m
      ·have hkjn : k + j < n := by have := HKM.out; omega
       have hKn : K < n := by omega
       obtain ⟨x, hx⟩ : ∃ x, vs'[k + j]? = some x := ⟨_, List.getElem?_eq_getElem (by rw [HV.out]; exact hkjn)⟩
       obtain ⟨y, hy⟩ : ∃ y, vs'[k + (j - 1)]? = some y := ⟨_, List.getElem?_eq_getElem (by rw [HV.out]; omega)⟩
       have cx := own_vi OW.out hx
       have cy := own_vi OW.out hy
       rw [Nat.add_mul] at cx cy
       obtain ⟨bq, hbq⟩ : ∃ z, (!eqT109 x.k y.k x.w y.w x.a y.a x.b y.b) = z := ⟨_, rfl⟩
       have HBQ := Lib.hid hbq
       have m1 : IntKind.i64.wrap ((j : Int) - 1) = (j : Int) - 1 := IntWalk.i64_in _ (by omega)
       have m2 : ((j : Int) - 1).toNat = j - 1 := by omega
       have e1 : (0 : Int) ≤ (j : Int) := by omega
       have e2 : (j : Int) < (m : Int) := by omega
       have e3 : (0 : Int) ≤ (j : Int) - 1 := by omega
       have e4 : (j : Int) - 1 < (m : Int) := by omega
       have e5 : (1 : Int) ≤ (j : Int) := by omega
       have hA : ∀ w', Grew wr.drew w' → (w'.cell? ⟨g, k * 4 + j * 4, none⟩ = some (.int .i64 x.k) ∧ w'.cell? ⟨g, k * 4 + j * 4 + 1, none⟩ = some (.int .i64 x.w) ∧ w'.cell? ⟨g, k * 4 + j * 4 + 2, none⟩ = some (.int .i64 x.a) ∧ w'.cell? ⟨g, k * 4 + j * 4 + 3, none⟩ = some (.int .i64 x.b)) ∧ w'.cell? ⟨g, k * 4 + (j - 1) * 4, none⟩ = some (.int .i64 y.k) ∧ w'.cell? ⟨g, k * 4 + (j - 1) * 4 + 1, none⟩ = some (.int .i64 y.w) ∧ w'.cell? ⟨g, k * 4 + (j - 1) * 4 + 2, none⟩ = some (.int .i64 y.a) ∧ w'.cell? ⟨g, k * 4 + (j - 1) * 4 + 3, none⟩ = some (.int .i64 y.b) := fun w' g' => by
        have gg := (Grew.refl wr).drew.trans g'
        exact ⟨⟨gg.cell cx.1, gg.cell cx.2.1, gg.cell cx.2.2.1, gg.cell cx.2.2.2⟩, gg.cell cy.1, gg.cell cy.2.1, gg.cell cy.2.2.1, gg.cell cy.2.2.2⟩
       have HA := Lib.hid hA
       clear hx hy cx cy hbq hA
       go_upto_region 11 with (fail)
       refine wp_region_seq (by kernel_rfl) Grew.refl (fun _ _ _ => Grew.trans) (fun _ _ _ _ _ h => h) (by kernel_rfl) ?_
       repeat (first
        | (refine TakeAll.pure (v := ?_) (by rfl) ?_ ?_; rotate_left; (intro w' g'; obtain ⟨⟨q0, q1, q2, q3⟩, q4, q5, q6, q7⟩ := HA.out w' g'; go_simp; first | done | with_reducible rfl); (simp only [Act.put, uzT, uz0, uz1]))
        | (refine TakeAll.pure (v := .bool bq) (by rfl) (fun w' _ => exec_neq109 HBQ.out rfl rfl rfl w') ?_; (simp only [Act.put, uzT, uz0, uz1])))
       refine TakeAll.nil ?_
       intro w5 g5
       have gg := (Grew.refl wr).drew.trans g5
       have OW5 := Lib.hid (own_grew OW.out gg)
       have HG5 := Lib.hid (HG.out.trans gg)
       have HX5 : Hid (w5.cell? ⟨g, k * 4 + j * 4, none⟩ = some (.int .i64 x.k) ∧ w5.cell? ⟨g, k * 4 + j * 4 + 1, none⟩ = some (.int .i64 x.w) ∧ w5.cell? ⟨g, k * 4 + j * 4 + 2, none⟩ = some (.int .i64 x.a) ∧ w5.cell? ⟨g, k * 4 + j * 4 + 3, none⟩ = some (.int .i64 x.b)) := (HA.out w5 g5).1
       clear g5 gg HA HBQ m1 m2 e3 e4 e5 OW HG
       cases bq with
       | false =>
        clear HX5
        go_wp2_with fail
        go_roundw
        case rel => exact ⟨K, j + 1, vs', rfl, by go_num, by omega, HV.out, OW5.out, HG5.out⟩
        case measure => simp [intOf]; omega
       | true =>
        obtain ⟨u0, u1, u2, u3⟩ := HX5.out
        have e6 : (0 : Int) ≤ (K : Int) := by omega
        have e7 : (K : Int) < (n : Int) := by omega
        have HT := Lib.hid (there_vi OW5.out HV.out (o := K * 4) (m := 4) (by omega))
        have OW6 := Lib.hid (set_vi OW5.out (k := K) (by rw [HV.out]; exact hKn) x)
        have HG6 := Lib.hid (grew_setCells HGB.out [.int .i64 x.k, .int .i64 x.w, .int .i64 x.a, .int .i64 x.b] (K * 4) w5 HG5.out)
        have HV6 : Hid ((vs'.set K x).length = n) := by unfold Hid; rw [List.length_set]; exact HV.out
        obtain ⟨w6, hw6⟩ : ∃ z, z = w5.setCells g (K * 4) [.int .i64 x.k, .int .i64 x.w, .int .i64 x.a, .int .i64 x.b] := ⟨_, rfl⟩
        rw [← hw6] at OW6 HG6
        go_upto_region 13 with (refine wpList_store_mid rfl 109 (.tmp 51) (.tmp 50) rfl g (K * 4) #[.int .i64 x.k, .int .i64 x.w, .int .i64 x.a, .int .i64 x.b] rfl rfl HT.out size109 (by simp [Value.oneCell']) ?_)
        rw [show w5.setCells g (K * 4) ((#[.int .i64 x.k, .int .i64 x.w, .int .i64 x.a, .int .i64 x.b] : Array Value)).toList = w6 from hw6.symm]
        clear hw6 u0 u1 u2 u3 HX5 HT OW5 HG5
        go_wp2_with fail
        go_roundw
        case rel => exact ⟨K + 1, j + 1, vs'.set K x, by go_num, by go_num, by omega, HV6.out, OW6.out, HG6.out⟩
        case measure => simp [intOf]; omega
      ·obtain rfl : m = j := by omega
       have hKn : K < n := by have := HKM.out; omega
       have r1 : ∀ x, (Instr.slice 57 (.slice (some ⟨g, 0, none⟩) n c) (some (.int .i64 (K : Int))) none none).run Tryz.prog x = .ok (.slice (tailA (some ⟨g, 0, none⟩) c K 4) (n - K) (c - K)) x := fun x => run_slice_tail x 57 4 elem57 (size109s x) (some ⟨g, 0, none⟩) n c K _ (by omega)
       rw [tail_at (show K < c by omega)] at r1
       have r2 : ∀ x, (Instr.slice 57 (.slice (some ⟨g, 0, none⟩) n c) none (some (.int .i64 (K : Int))) none).run Tryz.prog x = .ok (.slice (some ⟨g, 0, none⟩) K c) x := fun x => run_slice_head x 57 4 elem57 (size109s x) (some ⟨g, 0, none⟩) n c K _ (by omega)
       obtain ⟨L, r3⟩ := run_clear109 wr g (K * 4) (n - K) (c - K) (by omega) (there_vi OW.out HV.out (by omega))
       have HG6 := Lib.hid (grew_setCells HGB.out L (K * 4) wr HG.out)
       go_wp2
       go_ret
       exact ⟨some ⟨g, 0, none⟩, K, c, rfl, by omega, HG6.out⟩
   ·obtain rfl : n = k := by omega
    go_wp2
    go_ret
    exact ⟨some ⟨g, 0, none⟩, n, c, rfl, Iff.rfl, HGr.out⟩
end Go.Proofs.YtnnbibmmofnkdaaGreat
