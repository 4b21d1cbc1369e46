/-
  The ledger's iterator of entries, and Balance.
-/
import Derived.RangeFuncNested
import Derived.RangeFuncBound
import Derived.RangeFuncCalls
import Derived.RangeFuncLeaves
import Derived.Shelf.Abstract
import Derived.Shelf.RegionOpen
import Derived.WalkKit
import Derived.OwnWalkIn
import Derived.TacticsInMore
import Derived.LoopNIn
import Derived.LoopIn
import Derived.Test.YtaocjobbfcfleaaLdg
import Derived.Test.YtaocjobbfcfleaaIterW
namespace Go.Proofs.Ytaocjobbfcfleaa
open Go.RowKit Go.Shelf Go.Proofs WageMem WageOrd WageRec WageMap WageReg WageSet
attribute [local go_sem] Oper.semAt_some

/-- Cells that stay. -/
def KeepG (G : Addr → Prop) (A B : World) : Prop := ∀ p v, G p → A.cell? p = some v → B.cell? p = some v
theorem recs_keepG {α : Type} {enc : α → List Value} {size : Nat} {G : Addr → Prop} {W W' : World} {A : Option Addr} {n c : Nat} {l : List α} (E : EncOk enc size) (h : Recs enc size W A n c l) (k : KeepG G W W') (hG : ∀ b o, A = some ⟨b, o, Option.none⟩ → ∀ j, j < n * size → G ⟨b, o + j, Option.none⟩) : Recs enc size W' A n c l := by
  refine ⟨h.1, h.2.1, h.2.2.1, h.2.2.2.1, fun hx => ?_, h.2.2.2.2.2⟩
  obtain ⟨b, o, e, hc⟩ := h.2.2.2.2.1 hx
  refine ⟨b, o, e, fun j u hu => k _ _ (hG b o e j ?_) (hc j u hu)⟩
  have := (List.getElem?_eq_some_iff.1 hu).1
  rw [flat_len E, h.1] at this
  exact this
theorem counting_any (v : Value) (x y : Int) (w : World) : Calls Try.prog 50 #[.agg #[v], .int .i64 x, .int .i64 y] w fun r w' =>
    r = .returned (.func (.func 66) #[] #[.pointer (some ⟨w.heap.size, 0, none⟩), .pointer (some ⟨w.heap.size + 1, 0, none⟩), .pointer (some ⟨w.heap.size + 1 + 1, 0, none⟩)]) ∧
      w' = ((w.alloc (.cells #[v] 56)).alloc (.cells #[.int .i64 x] 3)).alloc (.cells #[.int .i64 y] 3) := by
  go_enter Try.func50, Try.ntmps50
  go_wp2_with fail
  go_ret
  exact ⟨rfl, rfl⟩

set_option maxRecDepth 100000 in
set_option maxHeartbeats 4000000 in
theorem count1_runs (m b1 b2 b3 : Nat) (A : Option Addr) (n c : Nat) (es : List Ent) (G : Addr → Prop) (W : World) (h1 : W.cell? ⟨b1, 0, none⟩ = some (.slice A n c)) (hG1 : G ⟨b1, 0, none⟩)
    (h2 : W.cell? ⟨b2, 0, none⟩ = some (.int .i64 36524)) (hG2 : G ⟨b2, 0, none⟩) (h3 : W.cell? ⟨b3, 0, none⟩ = some (.int .i64 36524)) (hG3 : G ⟨b3, 0, none⟩)
    (hB : Recs ne 6 W A n c es) (hGA : ∀ b o, A = some ⟨b, o, Option.none⟩ → ∀ j, j < n * 6 → G ⟨b, o + j, Option.none⟩) (he : ∀ e ∈ es, entB e = true) (hn : n ≤ 2000) :
    IterRunsV Fence.wide m Try.prog 66 #[.pointer (some ⟨b1, 0, none⟩), .pointer (some ⟨b2, 0, none⟩), .pointer (some ⟨b3, 0, none⟩)] (fun x : Ent => #[.agg #[.int .i64 x.id, .string x.de, .string x.cr, .int .i64 x.c, .int .i64 x.d, .int .i64 x.b]]) Grew (KeepG G) (· = es) (fun x => entB x = true) es.length W := by
  intro l J hJ hY h0
  have HL := Lib.hid hB.1
  have HE := Lib.hid he
  clear he
  refine callsIn_of_wp Try.func66 rfl trivial ?_ rfl
  simp only [Try.ntmps66, List.size_toArray, List.length_cons, List.length_nil, Nat.reduceAdd, Nat.reduceSub, Array.replicate_succ, Array.replicate_zero, List.push_toArray, List.append_toArray, List.nil_append, List.cons_append]
  gi_wp2
  gi_loopw [10] (fun i wr => ∃ k : Nat, k ≤ n ∧ i = .int .i64 k ∧ wr.cell? ⟨b1, 0, none⟩ = some (.slice A n c) ∧ wr.cell? ⟨b2, 0, none⟩ = some (.int .i64 36524) ∧ wr.cell? ⟨b3, 0, none⟩ = some (.int .i64 36524) ∧ Hid (Recs ne 6 wr A n c es) ∧ J (es.take k) wr)
    (fun i _ => n - (intOf i).toNat)
  case atStart => exact ⟨0, Nat.zero_le _, rfl, h1, h2, h3, hB, by rw [List.take_zero]; exact h0⟩
  case round =>
    clear h1 h2 h3 hB h0
    obtain ⟨k, hk, rfl, c1, c2, c3, HB, hj⟩ := hrel
    by_cases hlt : k < n
    · obtain ⟨b, o, x, hAx, hx, hr⟩ := HB.out.at_ ne_ok hlt
      have HX := Lib.hid hx
      have hxe := HE.out x (List.mem_of_getElem? hx)
      obtain ⟨_, _, _, _, _, hd6, hb6⟩ := ent_parts hxe
      rw [Bool.and_eq_true] at hd6 hb6
      have qd : decide (x.d ≤ 36524) = true := hd6.2
      have qb : decide (x.b ≤ 36524) = true := hb6.2
      have k0 : (0 : Int) ≤ (k : Int) := by omega
      have k1 : (k : Int) < (n : Int) := by omega
      have hlen : (es.take k).length < es.length := by rw [List.length_take, HL.out]; omega
      have ga : Grew wr (wr.alloc (.cells #[.int .i64 x.id, .string x.de, .string x.cr, .int .i64 x.c, .int .i64 x.d, .int .i64 x.b] 50)) := (Grew.refl wr).alloc _
      have d1 := ga.cell c1
      have d2 := ga.cell c2
      have d3 := ga.cell c3
      have HBa := Lib.hid (HB.out.grew ga)
      have hY' := hY (es.take k) x _ (hJ _ _ _ hj ga) hxe hlen
      have HT : Hid (es.take k ++ [x] = es.take (k + 1)) := by unfold Hid; rw [List.take_add_one, HX.out]; rfl
      rw [HT.out] at hY'
      obtain ⟨fn, tmps, assign, body, hy, hR⟩ := hY'
      have hGA' := Lib.hid hGA
      obtain ⟨e0, e1, e2, e3, e4, e5⟩ := n_cells hr
      subst hAx
      clear hx hr hj hd6 hb6 hlen HB hxe c1 c2 c3 hGA
      gi_wp2
      refine ⟨(fun h => by cases h), ?_⟩
      refine hR.mono ?_
      rintro r W3 ⟨rfl, hj3, hk3⟩
      have f1 := hk3 _ _ hG1 d1
      have f2 := hk3 _ _ hG2 d2
      have f3 := hk3 _ _ hG3 d3
      have HB3 := Lib.hid (recs_keepG ne_ok HBa.out hk3 hGA'.out)
      clear hR hy d1 d2 d3 HBa hk3 e0 e1 e2 e3 e4 e5 ga
      gi_wp2
      go_roundw
      case rel => exact ⟨k + 1, by omega, by go_num, f1, f2, f3, HB3, hj3⟩
      case measure => simp [intOf]; omega
    · obtain rfl : n = k := by omega
      have HF : Hid (es.take n = es) := by unfold Hid; rw [← HL.out, List.take_length]
      rw [HF.out] at hj
      gi_wp2
      refine bodyPost_end (results_none rfl _ _ _) rfl ?_
      exact ⟨⟨_, rfl⟩, es, rfl, hj⟩
/-- What holds behind each round. -/
structure GatB (w3 : World) (b5 : Nat) (acc : ByteArray) (pre : List Ent) (W : World) : Prop where
  bal : Boxed W w3.heap.size 3 (.int .i64 (balL acc pre))
  ac : W.cell? ⟨b5, 0, none⟩ = some (.string acc)
  grew : Grew w3 W
  size : w3.heap.size + 4 ≤ W.heap.size
  lo : -(1000000000000 * (pre.length : Int)) ≤ balL acc pre
  hi : balL acc pre ≤ 1000000000000 * (pre.length : Int)
def StaysB (w3 : World) (p : Addr) : Prop := p.block < w3.heap.size + 4 ∧ p.block ≠ w3.heap.size
theorem put_cell {W : World} {k : Nat} {o' : Obj} {p : Addr} (h : p.block ≠ k) : (W.putObj k o').cell? p = W.cell? p := World.cell?_of_block (World.putObj_heap_other h)
section
variable {w3 : World} {b5 : Nat} {acc : ByteArray} {pre : List Ent} {W : World}
theorem GatB.later (h : GatB w3 b5 acc pre W) {W' : World} (g : Grew W W') : GatB w3 b5 acc pre W' := ⟨g.block h.bal, g.cell h.ac, h.grew.trans g, Nat.le_trans h.size g.le, h.lo, h.hi⟩
theorem GatB.put (h : GatB w3 b5 acc pre W) (hb : b5 < w3.heap.size) {k : Nat} (hk : w3.heap.size + 4 ≤ k) (o' : Obj) : GatB w3 b5 acc pre (W.putObj k o') :=
  ⟨(World.putObj_heap_other (by omega)).trans h.bal, (put_cell (by show b5 ≠ k; omega)).trans h.ac, h.grew.grown (grownBy_putObj' W _ o') (fun j hj => by injection hj with hj; omega), by simpa [World.putObj] using h.size, h.lo, h.hi⟩
theorem keepB_put (l : Nat) (o' : Obj) (hl : w3.heap.size + 4 ≤ l) : KeepG (StaysB w3) W (W.putObj l o') := fun p v hp hc => (put_cell (by have := hp.1; omega)).trans hc
theorem balL_snoc (acc : ByteArray) (l : List Ent) (x : Ent) : balL acc (l ++ [x]) = balL acc l + balF acc x := sm_snoc _ _ _
/-- A round's end. -/
theorem GatB.step (h : GatB w3 b5 acc pre W) (hb : b5 < w3.heap.size) {x : Ent} (hx : -1000000000000 ≤ balF acc x ∧ balF acc x ≤ 1000000000000) {v : Int} (hv : v = balL acc (pre ++ [x])) : GatB w3 b5 acc (pre ++ [x]) (W.setCell ⟨w3.heap.size, 0, none⟩ (.int .i64 v)) := by
  subst hv
  refine ⟨h.bal.set _, (World.cell?_setCell_other _ _ _ _ (fun e => by injection e with e; omega)).trans h.ac, h.grew.set (Nat.le_refl _) _, by have := h.size; simp [World.setCell]; omega, ?_, ?_⟩
  · rw [balL_snoc, List.length_append, List.length_singleton]; have := h.lo; omega
  · rw [balL_snoc, List.length_append, List.length_singleton]; have := h.hi; omega
theorem GatB.same (h : GatB w3 b5 acc pre W) {x : Ent} (hx : balF acc x = 0) : GatB w3 b5 acc (pre ++ [x]) W := by
  refine ⟨?_, h.ac, h.grew, h.size, ?_, ?_⟩
  · rw [balL_snoc, hx, Int.add_zero]; exact h.bal
  · rw [balL_snoc, List.length_append, List.length_singleton]; have := h.lo; omega
  · rw [balL_snoc, List.length_append, List.length_singleton]; have := h.hi; omega
end
set_option maxRecDepth 100000 in
set_option maxHeartbeats 8000000 in
theorem bal_any (A : Option Addr) (n c : Nat) (es : List Ent) (acc : ByteArray) (w : World) (h : Ents w A n c es) (he : ∀ e ∈ es, entB e = true) (hs : SortedE es) (hd : (es.map (·.id)).Nodup) (hn : n ≤ 2000) :
    Calls Try.prog 27 #[.agg #[.slice A n c], .string acc, .int .i64 36524, .int .i64 36524] w fun r w' => r = .returned (.int .i64 (balL acc es)) ∧ Grew w w' := by
  have HH := Lib.hid h
  have HE := Lib.hid he
  have HS := Lib.hid hs
  have HND := Lib.hid hd
  clear h he hs hd
  refine (callsIn_wide (n := 3)).1 ?_
  refine callsIn_of_wp_marks Try.func27 rfl trivial ?_ rfl
  simp only [Try.ntmps27, List.size_toArray, List.length_cons, List.length_nil, Nat.reduceAdd, Nat.reduceSub, Array.replicate_succ, Array.replicate_zero, List.push_toArray, List.append_toArray, List.nil_append, List.cons_append]
  have g2 : Grew w ((w.alloc (.cells #[.slice A n c] 56)).alloc (.cells #[.string acc] 9)) := ((Grew.refl w).alloc _).alloc _
  gi_wp2
  refine ⟨trivial, ?_⟩
  refine (callsIn_wide.2 (lvalid_true A n c es _ (HH.out.grew g2) HE.out HS.out HND.out hn)).mono ?_
  rintro r w3 ⟨rfl, g3⟩
  have x0 := g3.cell (show ((w.alloc (.cells #[.slice A n c] 56)).alloc (.cells #[.string acc] 9)).cell? ⟨w.heap.size, 0, none⟩ = some (.slice A n c) by exact ((Grew.refl _).alloc _).cell (Boxed.new w 56 (.slice A n c)).cell)
  have x1 := g3.cell (show ((w.alloc (.cells #[.slice A n c] 56)).alloc (.cells #[.string acc] 9)).cell? ⟨w.heap.size + 1, 0, none⟩ = some (.string acc) by have := (Boxed.new (w.alloc (.cells #[.slice A n c] 56)) 9 (.string acc)).cell; rwa [World.size_alloc] at this)
  have G3 := g2.trans g3
  have hw3 : w.heap.size + 1 + 1 ≤ w3.heap.size := by have := g3.le; simpa using this
  have H3 := Lib.hid (HH.out.grew G3)
  have x0' := ((Grew.refl w3).alloc (.cells #[.int .i64 0] 3)).cell x0
  clear g2 g3 HH HS HND
  gi_wp2_with (refine ⟨trivial, ?_⟩; gi_at_call 50; refine (callsIn_wide.2 (counting_any _ _ _ _)).mono ?_; rintro r w' ⟨rfl, rfl⟩)
  obtain ⟨w6, hw6⟩ : ∃ y, y = (((w3.alloc (.cells #[.int .i64 0] 3)).alloc (.cells #[.slice A n c] 56)).alloc (.cells #[.int .i64 36524] 3)).alloc (.cells #[.int .i64 36524] 3) := ⟨_, rfl⟩
  have hs6 : w6.heap.size = w3.heap.size + 4 := by rw [hw6]; simp
  have g6 : Grew w3 w6 := by rw [hw6]; exact ((((Grew.refl w3).alloc _).alloc _).alloc _).alloc _
  have k9 : Boxed w6 w3.heap.size 3 (.int .i64 0) := by rw [hw6]; exact (((Boxed.new w3 3 _).alloc _).alloc _).alloc _
  have k1 : Boxed w6 (w3.heap.size + 1) 56 (.slice A n c) := by
    rw [hw6]; have := ((Boxed.new (w3.alloc (.cells #[.int .i64 0] 3)) 56 (.slice A n c)).alloc (.cells #[.int .i64 36524] 3)).alloc (.cells #[.int .i64 36524] 3); rwa [World.size_alloc] at this
  have k2 : Boxed w6 (w3.heap.size + 1 + 1) 3 (.int .i64 36524) := by
    rw [hw6]; have := (Boxed.new ((w3.alloc (.cells #[.int .i64 0] 3)).alloc (.cells #[.slice A n c] 56)) 3 (.int .i64 36524)).alloc (.cells #[.int .i64 36524] 3); rwa [World.size_alloc, World.size_alloc] at this
  have k3 : Boxed w6 (w3.heap.size + 1 + 1 + 1) 3 (.int .i64 36524) := by
    rw [hw6]; have := Boxed.new (((w3.alloc (.cells #[.int .i64 0] 3)).alloc (.cells #[.slice A n c] 56)).alloc (.cells #[.int .i64 36524] 3)) 3 (.int .i64 36524); rwa [World.size_alloc, World.size_alloc, World.size_alloc] at this
  rw [← hw6]
  have HBL : Hid (∀ b o, A = some ⟨b, o, none⟩ → 0 < n → b < w3.heap.size) := fun b o e hp => by
    obtain ⟨b', o', y, e', _, hr⟩ := H3.out.1.at_ ne_ok hp
    rw [e] at e'
    injection e' with e'
    injection e' with e1 e2
    subst e1
    exact World.block_lt_of_cell? _ _ (hr 0 _ rfl)
  have hb5 : w.heap.size + 1 < w3.heap.size := by omega
  clear hw6 x0'
  refine wpIn_rangeFunc_goesOnW rfl (by decide) (gf := 66) (lb := #[.pointer (some ⟨w3.heap.size + 1, 0, none⟩), .pointer (some ⟨w3.heap.size + 1 + 1, 0, none⟩), .pointer (some ⟨w3.heap.size + 1 + 1 + 1, 0, none⟩)]) rfl trivial (enters_of Try.func66 (by kernel_rfl) rfl) (encs := fun x : Ent => #[.agg #[.int .i64 x.id, .string x.de, .string x.cr, .int .i64 x.c, .int .i64 x.d, .int .i64 x.b]]) (fun _ => rfl)
    (fun o1 o2 => count1_runs 2 (w3.heap.size + 1) (w3.heap.size + 1 + 1) (w3.heap.size + 1 + 1 + 1) A n c es (StaysB w3) _ ((k1.alloc o1).alloc o2).cell ⟨show w3.heap.size + 1 < w3.heap.size + 4 by omega, show w3.heap.size + 1 ≠ w3.heap.size by omega⟩
      ((k2.alloc o1).alloc o2).cell ⟨show w3.heap.size + 1 + 1 < w3.heap.size + 4 by omega, show w3.heap.size + 1 + 1 ≠ w3.heap.size by omega⟩ ((k3.alloc o1).alloc o2).cell ⟨show w3.heap.size + 1 + 1 + 1 < w3.heap.size + 4 by omega, show w3.heap.size + 1 + 1 + 1 ≠ w3.heap.size by omega⟩
      (H3.out.1.grew ((g6.alloc o1).alloc o2)) (fun b o e j hj => by have := HBL.out b o e (by omega); exact ⟨show b < w3.heap.size + 4 by omega, show b ≠ w3.heap.size by omega⟩) HE.out hn)
    (fun A B C h k p v hp hc => k p v hp (h p v hp hc)) ?kb ?st (GatB w3 (w.heap.size + 1) acc) ?is ?ib ?start
    (fun x W => { tmps := #[.agg #[.slice A n c], .string acc, .int .i64 36524, .int .i64 36524, .pointer (some ⟨w.heap.size, 0, none⟩), .pointer (some ⟨w.heap.size + 1, 0, none⟩), undef, undef, .int .i64 0, .pointer (some ⟨w3.heap.size, 0, none⟩), .pointer (some ⟨W.heap.size, 0, none⟩),
      .agg #[.slice A n c], .bool true, .bool false, .agg #[.slice A n c], .int .i64 36524, .int .i64 36524, .func (.func 66) #[] #[.pointer (some ⟨w3.heap.size + 1, 0, none⟩), .pointer (some ⟨w3.heap.size + 1 + 1, 0, none⟩), .pointer (some ⟨w3.heap.size + 1 + 1 + 1, 0, none⟩)], .agg #[.int .i64 x.id, .string x.de, .string x.cr, .int .i64 x.c, .int .i64 x.d, .int .i64 x.b], undef, undef, undef, undef, undef, undef, undef, undef, undef, undef, undef, undef, undef, undef, undef, undef, undef, undef], defers := [] })
    (fun x W => W.alloc (.cells #[.int .i64 x.id, .string x.de, .string x.cr, .int .i64 x.c, .int .i64 x.d, .int .i64 x.b] 50)) ?h1s ?h1k ?assign ?body ?done
  case kb =>
    intro W l o' hl
    exact keepB_put l o' (by omega)
  case st => exact fun A B g k o _ ho => g.block ho
  case is => exact fun s A B h g => h.later g
  case ib =>
    intro s W o' _ h
    exact h.put hb5 (by omega) o'
  case h1s => exact fun x W => (Grew.refl W).alloc _
  case h1k => exact fun x W p v hp hc => ((Grew.refl W).alloc _).cell hc
  case start =>
    intro o1 o2
    have e1 : Grew w6 ((w6.alloc o1).alloc o2) := ((Grew.refl w6).alloc _).alloc _
    refine ⟨e1.block k9, (g6.trans e1).cell x1, g6.trans e1, by simp; omega, by simp [balL, sm], by simp [balL, sm]⟩
  case assign =>
    intro l x W K hK
    gi_wp2
    exact hK
  case body =>
    intro l pre x W o' hG hsz hV hlen
    rw [hs6] at hsz
    have hpl : (pre.length : Int) ≤ 2000 := by have h1 := H3.out.1.1; omega
    obtain ⟨_, _, _, _, hxc, _, _⟩ := ent_parts hV
    obtain ⟨bE, hbE⟩ : ∃ z, z = W.heap.size := ⟨_, rfl⟩
    have HN := range_new W (ne x) 50
    have hGb := (hG.later ((Grew.refl W).alloc (.cells #[.int .i64 x.id, .string x.de, .string x.cr, .int .i64 x.c, .int .i64 x.d, .int .i64 x.b] 50))).put hb5 (k := w6.heap.size + 1) (by omega) o'
    have HRE : Hid (((W.alloc (.cells #[.int .i64 x.id, .string x.de, .string x.cr, .int .i64 x.c, .int .i64 x.d, .int .i64 x.b] 50)).putObj (w6.heap.size + 1) o').rangeAt bE 0 (ne x)) := fun j u hu => (put_cell (by show bE ≠ _; omega)).trans (by rw [hbE]; exact HN j u hu)
    obtain ⟨Wb, hWb⟩ : ∃ y, y = (W.alloc (.cells #[.int .i64 x.id, .string x.de, .string x.cr, .int .i64 x.c, .int .i64 x.d, .int .i64 x.b] 50)).putObj (w6.heap.size + 1) o' := ⟨_, rfl⟩
    rw [← hWb] at HRE hGb ⊢
    rw [← hbE]
    have HG := Lib.hid hGb
    obtain ⟨Z, hZ⟩ : ∃ Z, balL acc pre = Z := ⟨_, rfl⟩
    have HZ := Lib.hid hZ
    have hlo := hGb.lo
    have hhi := hGb.hi
    rw [hZ] at hlo hhi
    have c9 := hGb.bal.cell
    have f9 := hGb.bal.frozen
    rw [hZ] at c9
    have ca := hGb.ac
    obtain ⟨e0, e1, e2, e3, e4, e5⟩ := n_cells0 HRE.out
    clear hG hGb hWb HN hV hlen hbE hZ k9 k1 k2 k3 g6 x0 x1
    by_cases q1 : acc = x.de
    · have p1 : (acc.toList == x.de.toList) = true := by rw [str_eq]; exact decide_eq_true q1
      have HF : Hid (balF acc x = x.c) := by unfold Hid balF; rw [if_pos q1]
      have hw1 : IntKind.i64.wrap (Z + x.c) = Z + x.c := IntWalk.i64_in _ (by omega)
      clear q1
      gi_wp2
      exact ⟨(KeepsOthers.setCell _ _ _).from _, fun p v hp hc => (World.cell?_setCell_other _ _ _ _ (fun e => hp.2 (by rw [← e]))).trans hc, HG.out.step hb5 (by rw [HF.out]; omega) (by rw [balL_snoc, HF.out, HZ.out])⟩
    · have p1 : (acc.toList == x.de.toList) = false := by rw [str_eq]; exact decide_eq_false q1
      by_cases q2 : acc = x.cr
      · have p2 : (acc.toList == x.cr.toList) = true := by rw [str_eq]; exact decide_eq_true q2
        have HF : Hid (balF acc x = - x.c) := by unfold Hid balF; rw [if_neg q1, if_pos q2]
        have hw1 : IntKind.i64.wrap (Z - x.c) = Z - x.c := IntWalk.i64_in _ (by omega)
        clear q1 q2
        gi_wp2
        exact ⟨(KeepsOthers.setCell _ _ _).from _, fun p v hp hc => (World.cell?_setCell_other _ _ _ _ (fun e => hp.2 (by rw [← e]))).trans hc, HG.out.step hb5 (by rw [HF.out]; omega) (by rw [balL_snoc, HF.out, HZ.out]; omega)⟩
      · have p2 : (acc.toList == x.cr.toList) = false := by rw [str_eq]; exact decide_eq_false q2
        have HF : Hid (balF acc x = 0) := by unfold Hid balF; rw [if_neg q1, if_neg q2]
        clear q1 q2
        gi_wp2
        exact ⟨KeepsFrom.refl _ _, fun p v hp hc => hc, HG.out.same HF.out⟩
  case done =>
    rintro xs W rfl hG hK
    have c9 := hG.bal.cell
    have HG := Lib.hid hG
    clear hG k9 k1 k2 k3 g6 x0 x1
    gi_wp2
    refine ⟨by simp, .inl ⟨_, _, rfl, run_takeDeferred hK, ?_⟩⟩
    refine ⟨_, results_tmp rfl _ _ _, rfl, ?_⟩
    exact (G3.trans HG.out.grew).grown (grownBy_putObj' _ _ _) (fun j hj => by injection hj with hj; have := G3.le; omega)
end Go.Proofs.Ytaocjobbfcfleaa
