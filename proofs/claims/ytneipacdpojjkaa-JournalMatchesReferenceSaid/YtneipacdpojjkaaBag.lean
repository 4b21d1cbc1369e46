/-
  The records that are being gathered: two boxes, a row of slices, a row of bytes for each.
-/
import Derived.Test.YtneipacdpojjkaaScan
namespace Go.Proofs.Ytneipacdpojjkaa
open Go.RowKit Go.Proofs WageMem WageDisk

theorem info22 : (Try.prog.info? 22).map (fun i => (i.zero, i.size, i.bytes)) = some (some (.slice none 0 0), 1, 24) := by kernel_rfl

def partOf (all : List UInt8) (x : Nat × Nat) : List UInt8 := (all.drop x.1).take x.2
def endOf (pre : List (Nat × Nat)) : Nat := match pre.getLast? with
  | none => 0
  | some x => x.1 + x.2
theorem endOf_snoc (pre : List (Nat × Nat)) (x : Nat × Nat) : endOf (pre ++ [x]) = x.1 + x.2 := by unfold endOf; rw [List.getLast?_concat]

/-- What has been gathered. -/
structure Bag (base : Nat) (all : List UInt8) (pre : List (Nat × Nat)) (W : World) (R6 : Nat) (Al : Option Addr) (cl : Nat) (vs : List Value) : Prop where
  box : W.heap[R6]? = some (.cells #[.slice Al pre.length cl] 49 (0, 0))
  row : W.ownsRow base 22 1 (.slice Al pre.length cl) pre.length vs
  data : ∀ (j : Nat) (x : Nat × Nat), pre[j]? = some x → ∃ Aj cj, vs[j]? = some (.slice Aj x.2 cj) ∧ W.ownsRow base 5 1 (.slice Aj x.2 cj) x.2 ((partOf all x).map bv)
  len : vs.length = pre.length

section
variable {base : Nat} {all : List UInt8} {pre : List (Nat × Nat)} {W W' : World} {R6 : Nat} {Al : Option Addr} {cl : Nat} {vs : List Value}
theorem Bag.grew (h : Bag base all pre W R6 Al cl vs) (g : Grew W W') : Bag base all pre W' R6 Al cl vs :=
  ⟨g.block h.box, own_grew h.row g, fun j x hx => by obtain ⟨Aj, cj, h1, h2⟩ := h.data j x hx; exact ⟨Aj, cj, h1, own_grew h2 g⟩, h.len⟩
theorem own_low {e : TypeId} {v : Value} {n : Nat} {xs : List Value} (h : W.ownsRow base e 1 v n xs) {R : Nat} (hR : R < base) : v.ownBlock ≠ some R := fun e => by
  have := (h.lt R e).1; omega
theorem own_set_low {e : TypeId} {v : Value} {n : Nat} {xs : List Value} (h : W.ownsRow base e 1 v n xs) {R : Nat} (hR : R < base) (u : Value) : (W.setCell ⟨R, 0, none⟩ u).ownsRow base e 1 v n xs :=
  h.kept (grownBy_setCell' W R u) (.inr (own_low h hR))

/-- One more record is gathered. -/
theorem bag_step (h : Bag base all pre W R6 Al cl vs) {a m C : Nat} {Aw : Option Addr} (hb : Bytes W Aw m C (partOf all (a, m))) (hm : m ≤ 4096) (hp : pre.length ≤ 65536) (hB : base ≤ W.heap.size) (h6 : R6 < base) :
    ∃ W2, (Builtin.copy_ #[22, 22] 3 #[.slice (some ⟨W.heap.size, 0, none⟩) m m, .slice Aw m C]).run Try.prog (W.alloc (.cells (madeCells (Value.int .u8 0).cells (m * 1)) 5)) = .ok (goInt m) W2 ∧ W2.cell? ⟨R6, 0, none⟩ = some (.slice Al pre.length cl) ∧
      ∃ Al' cl' W4, (Builtin.append_ #[49, 49] 49 #[.slice Al pre.length cl, .slice (some ⟨W2.heap.size, 0, none⟩) 1 1]).run Try.prog (W2.alloc (.cells #[.slice (some ⟨W.heap.size, 0, none⟩) m m] 22)) = .ok (.slice Al' (pre.length + 1) cl') W4 ∧
        W4.cell? ⟨R6, 0, none⟩ = some (.slice Al pre.length cl) ∧ W4.frozen? ⟨R6, 0, none⟩ = false ∧
        Bag base all (pre ++ [(a, m)]) (W4.setCell ⟨R6, 0, none⟩ (.slice Al' (pre.length + 1) cl')) R6 Al' cl' (vs ++ [.slice (some ⟨W.heap.size, 0, none⟩) m m]) ∧ Below base W W4 ∧ KeepsOthers W W4 := by
  obtain ⟨i0, hi, hz0, hz1, hz2⟩ := info_parts info22
  have hmx : m ≤ maxLen := by unfold maxLen; omega
  have own1 : (W.alloc (.cells (madeCells (Value.int .u8 0).cells (m * 1)) 5)).ownsRow base 5 1 (.slice (some ⟨W.heap.size, 0, none⟩) m m) m ((List.replicate m (0 : UInt8)).map bv) := by
    refine ⟨by simp, .inr ⟨W.heap.size, m, _, rfl, hB, heap_alloc_new W _, Nat.le_refl _, hmx, by rw [size_madeCells], ?_⟩⟩
    rw [← made_zero, List.take_of_length_le (by rw [Array.length_toList, size_madeCells]; omega)]
  have g1 : Grew W (W.alloc (.cells (madeCells (Value.int .u8 0).cells (m * 1)) 5)) := (Grew.refl W).alloc _
  have hl : ((partOf all (a, m)).map bv).length = m := by rw [List.length_map, hb.1]
  obtain ⟨W2, hrun2, own2, hg2⟩ := run_copy_owned (P := Try.prog) (W.alloc (.cells (madeCells (Value.int .u8 0).cells (m * 1)) 5)) 22 3 5 Try.underlying22 size5 base (some ⟨W.heap.size, 0, none⟩) m m _ own1
    (some ⟨W.heap.size, 0, none⟩) Aw m m m C 0 ((partOf all (a, m)).map bv) (by rw [hl]; exact (Nat.min_self m).symm) (fun g hg _ => hg) (hb.grew g1).2.2.2.2.1 (by rw [hl]; omega) (bv_one _)
  rw [hl] at hrun2
  have own2' : W2.ownsRow base 5 1 (.slice (some ⟨W.heap.size, 0, none⟩) m m) m ((partOf all (a, m)).map bv) := by
    have e : splice ((List.replicate m (0 : UInt8)).map bv) 0 ((partOf all (a, m)).map bv) = (partOf all (a, m)).map bv := by
      unfold splice
      rw [List.take_zero, List.nil_append, Nat.zero_add, hl, List.drop_of_length_le (by simp), List.append_nil]
    rw [e] at own2; exact own2
  have gW2 : Grew W W2 := g1.grown hg2 (by simp [Value.ownBlock])
  have k2 : KeepsOthers W W2 := (KeepsOthers.alloc W _).trans (KeepsOthers.of_grownBy hg2 (fun j o hj ho => by
    have e : W.heap.size = j := by simpa [Value.ownBlock] using hj
    subst e
    rw [heap_alloc_new] at ho
    injection ho with ho
    subst ho
    rfl))
  have bag2 := h.grew gW2
  refine ⟨W2, hrun2, blk_cell bag2.box 0, ?_⟩
  have g3 : Grew W2 (W2.alloc (.cells #[.slice (some ⟨W.heap.size, 0, none⟩) m m] 22)) := (Grew.refl W2).alloc _
  have bag3 := bag2.grew g3
  have hsl : Sl (W2.alloc (.cells #[.slice (some ⟨W.heap.size, 0, none⟩) m m] 22)) 1 (some ⟨W2.heap.size, 0, none⟩) 1 1 [.slice (some ⟨W.heap.size, 0, none⟩) m m] := by
    refine ⟨Nat.le_refl _, by unfold maxLen; omega, rfl, fun _ => ⟨W2.heap.size, 0, rfl, fun j u hu => ?_⟩, fun h => by cases h⟩
    rw [blk_cell (heap_alloc_new W2 _), Nat.zero_add]
    simpa using hu
  have hB3 : base ≤ (W2.alloc (.cells #[.slice (some ⟨W.heap.size, 0, none⟩) m m] 22)).heap.size := by have := gW2.le; simp; omega
  obtain ⟨v4, W4, hrun4, own4, hg4, _⟩ := run_append_sl (P := Try.prog) (W2.alloc (.cells #[.slice (some ⟨W.heap.size, 0, none⟩) m m] 22)) base 49 49 22 i0 (.slice none 0 0) 1 24 Try.underlying49 hi hz0 hz1 hz2 rfl (by decide)
    (.slice Al pre.length cl) pre.length vs bag3.row (some ⟨W2.heap.size, 0, none⟩) 1 1 _ hsl (by simp [Value.oneCell']) (by unfold maxLen; omega) (by omega) hB3
  obtain ⟨Al', cl', rfl⟩ := own_form own4
  have ne6 := own_low bag3.row h6
  have box4 : W4.heap[R6]? = some (.cells #[.slice Al pre.length cl] 49 (0, 0)) := (hg4.block R6 (Array.getElem?_eq_some_iff.1 bag3.box).1 (fun e => ne6 e.symm)).trans bag3.box
  have own5 := own_grown (own_grew own2' g3) bag3.row (by decide) hg4
  refine ⟨Al', cl', W4, hrun4, blk_cell box4 0, blk_frozen box4 0, ⟨?_, ?_, fun j x hx => ?_, by simp [h.len]⟩, ?_, ?_⟩
  · have := heap_set box4 0 (.slice Al' (pre.length + 1) cl')
    rw [List.length_append]
    exact this
  · rw [List.length_append]; exact own_set_low own4 h6 _
  · by_cases hj : j < pre.length
    · rw [List.getElem?_append_left hj] at hx
      obtain ⟨Aj, cj, h1, h2⟩ := bag3.data j x hx
      exact ⟨Aj, cj, by rw [List.getElem?_append_left (by rw [h.len]; exact hj)]; exact h1, own_set_low (own_grown h2 bag3.row (by decide) hg4) h6 _⟩
    · rw [List.getElem?_append_right (by omega)] at hx
      have : j - pre.length = 0 := by
        have := (List.getElem?_eq_some_iff.1 hx).1
        simp at this; omega
      rw [this] at hx
      simp at hx
      subst hx
      exact ⟨_, _, by rw [List.getElem?_append_right (by rw [h.len]; omega), h.len, this]; rfl, own_set_low own5 h6 _⟩
  · have b1 : Below base W W2 := Below.mono gW2 hB
    exact (b1.alloc (Nat.le_trans hB gW2.le) _).grown hg4 hB3 (fun k hk => (bag3.row.lt k hk).1)
  · refine (k2.trans (KeepsOthers.alloc W2 _)).trans (KeepsOthers.of_grownBy hg4 (fun j o hj ho => ?_))
    rcases bag3.row.2 with ⟨hv, _⟩ | ⟨g, cap, cur, hv, _, hh, _⟩
    · rw [hv] at hj; simp [Value.ownBlock] at hj
    · rw [hv] at hj
      have e : g = j := by simpa [Value.ownBlock] using hj
      subst e
      rw [hh] at ho
      injection ho with ho
      subst ho
      rfl
end
end Go.Proofs.Ytneipacdpojjkaa
