/-
  A slice of answers in a row of the call's own, from an offset on: elements are exchanged, the first one goes to the end.
-/
import Derived.Test.YtaocjobbfcfleaaApO
import Derived.Test.YtaocjobbfcfleaaLSm
namespace Go.Proofs.Ytaocjobbfcfleaa
open Go.RowKit Go.Proofs WageMem WageOrd WageRec WageMap WageReg WageSet

/-- The cells of a slice in a row of the call's own. -/
structure Row (w : World) (base g off c k : Nat) (flat : List Value) : Prop where
  lo : base ≤ g
  cells : ∃ cur, w.heap[g]? = some (.cells cur 29 (0, 0)) ∧ off + c * 5 ≤ cur.size ∧ (cur.toList.drop off).take k = flat
  room : k ≤ c * 5
theorem Row.lt {w : World} {base g off c k : Nat} {flat : List Value} (h : Row w base g off c k flat) : g < w.heap.size := by
  obtain ⟨cur, h1, _⟩ := h.cells
  exact (Array.getElem?_eq_some_iff.1 h1).1
theorem Row.len {w : World} {base g off c k : Nat} {flat : List Value} (h : Row w base g off c k flat) : flat.length = k := by
  obtain ⟨cur, _, h2, h3⟩ := h.cells
  have := h.room
  rw [← h3, List.length_take, List.length_drop, Array.length_toList]; omega
theorem Row.cell {w : World} {base g off c k : Nat} {flat : List Value} (h : Row w base g off c k flat) {i : Nat} {u : Value} (hu : flat[i]? = some u) : w.cell? ⟨g, off + i, none⟩ = some u := by
  obtain ⟨cur, h1, h2, h3⟩ := h.cells
  rw [cell_of_row w g (off + i) cur 29 (0, 0) h1]
  rw [← h3, List.getElem?_take] at hu
  split at hu
  · rw [List.getElem?_drop] at hu; simpa using hu
  · cases hu
theorem Row.free {w : World} {base g off c k : Nat} {flat : List Value} (h : Row w base g off c k flat) (j : Nat) : w.frozen? ⟨g, j, none⟩ = false := by
  obtain ⟨cur, h1, _⟩ := h.cells
  exact row_free h1 j
theorem Row.set {w : World} {base g off c k : Nat} {flat : List Value} (h : Row w base g off c k flat) (i : Nat) (u : Value) : Row (w.setCell ⟨g, off + i, none⟩ u) base g off c k (flat.set i u) := by
  obtain ⟨cur, h1, h2, h3⟩ := h.cells
  refine ⟨h.lo, ⟨cur.setIfInBounds (off + i) u, Go.heap_setCell_same w g (off + i) cur 29 u h1, by simpa using h2, ?_⟩, h.room⟩
  rw [Array.toList_setIfInBounds, List.drop_set, if_neg (by omega), List.take_set, h3]
  congr 1
  omega
theorem Row.grew {w w' : World} {base g off c k : Nat} {flat : List Value} (h : Row w base g off c k flat) (hg : Grew w w') : Row w' base g off c k flat := by
  obtain ⟨cur, h1, h2, h3⟩ := h.cells
  exact ⟨h.lo, ⟨cur, hg.block h1, h2, h3⟩, h.room⟩
theorem Row.far {w : World} {base g off c k : Nat} {flat : List Value} (h : Row w base g off c k flat) {b i : Nat} (hb : g ≠ b) (u : Value) : Row (w.setCell ⟨b, i, none⟩ u) base g off c k flat := by
  obtain ⟨cur, h1, h2, h3⟩ := h.cells
  exact ⟨h.lo, ⟨cur, ((set_grown w b i u).block g h.lt (fun e => hb (by injection e))).trans h1, h2, h3⟩, h.room⟩
/-- A slice of answers in a row of the call's own. -/
def LeftIs (w : World) (base : Nat) (A : Option Addr) (n c : Nat) (l : List Ans) : Prop := l.length = n ∧ n ≤ c ∧ c ≤ maxLen ∧ ∃ g off, A = some ⟨g, off, none⟩ ∧ Row w base g off c (n * 5) (l.flatMap ae)
theorem LeftIs.anss {w : World} {base : Nat} {A : Option Addr} {n c : Nat} {l : List Ans} (h : LeftIs w base A n c l) : Anss w A n c l := by
  obtain ⟨h1, h2, h3, g, off, rfl, hr⟩ := h
  exact ⟨h1, h2, h3, hr.len, fun _ => ⟨g, off, rfl, fun j u hu => hr.cell hu⟩, fun h => by cases h⟩
theorem LeftIs.grew {w w' : World} {base : Nat} {A : Option Addr} {n c : Nat} {l : List Ans} (h : LeftIs w base A n c l) (g : Grew w w') : LeftIs w' base A n c l := by
  obtain ⟨h1, h2, h3, k, off, rfl, hr⟩ := h
  exact ⟨h1, h2, h3, k, off, rfl, hr.grew g⟩
theorem flat_set5 (s : Ans) : ∀ (l : List Ans) (k : Nat), k < l.length →
    ((((((l.flatMap ae).set (k * 5) (.int .i64 s.q)).set (k * 5 + 1) (.int .i64 s.id)).set (k * 5 + 2) (.int .i64 s.k)).set (k * 5 + 3) (.int .i64 s.c)).set (k * 5 + 4) (.int .i64 s.d)) = (l.set k s).flatMap ae
  | [], k, h => by simp at h
  | x :: l, 0, _ => rfl
  | x :: l, k + 1, h => by
    have ih := flat_set5 s l k (by simpa using h)
    rw [List.set_cons_succ, List.flatMap_cons, List.flatMap_cons, ← ih]
    rw [show (k + 1) * 5 = k * 5 + 5 by omega]
    simp only [show ∀ i, k * 5 + 5 + i = k * 5 + i + 5 from fun i => by omega]
    rfl
/-- An element is stored. -/
def five (w : World) (g o : Nat) (s : Ans) : World := ((((w.setCell ⟨g, o, none⟩ (.int .i64 s.q)).setCell ⟨g, o + 1, none⟩ (.int .i64 s.id)).setCell ⟨g, o + 2, none⟩ (.int .i64 s.k)).setCell ⟨g, o + 3, none⟩ (.int .i64 s.c)).setCell ⟨g, o + 4, none⟩ (.int .i64 s.d)
theorem Row.five {w : World} {base g off c n : Nat} {l : List Ans} (h : Row w base g off c (n * 5) (l.flatMap ae)) {k : Nat} (hk : k < l.length) (s : Ans) : Row (five w g (off + k * 5) s) base g off c (n * 5) ((l.set k s).flatMap ae) := by
  rw [← flat_set5 s l k hk]
  exact ((((h.set (k * 5) _).set (k * 5 + 1) _).set (k * 5 + 2) _).set (k * 5 + 3) _).set (k * 5 + 4) _
theorem five_grew {w0 w : World} {g o : Nat} (s : Ans) (h : Grew w0 w) (hg : w0.heap.size ≤ g) : Grew w0 (five w g o s) :=
  ((((h.set (p := ⟨g, o, none⟩) hg _).set (p := ⟨g, o + 1, none⟩) hg _).set (p := ⟨g, o + 2, none⟩) hg _).set (p := ⟨g, o + 3, none⟩) hg _).set (p := ⟨g, o + 4, none⟩) hg _

/-- append into the row's own room, from an offset on. -/
theorem run_append_room_off {P : Program} (w : World) (t ty e : TypeId) (i : TypeInfo) (ht : P.underlying t = some (.slice e)) (hi : P.info? e = some i)
    (g off sLen sCap : Nat) (cur : Array Value) (hg : w.heap[g]? = some (.cells cur e (0, 0)))
    (a : Addr) (m c : Nat) (news : List Value) (hl : news.length = m * i.size) (hnews : ∀ j u, news[j]? = some u → w.cell? (a.add j) = some u) (h1 : ∀ u ∈ news, u.oneCell' = true)
    (hroom : sLen + m ≤ sCap) (hfit : off + sLen * i.size + news.length ≤ cur.size) :
    (Builtin.append_ #[t, t] ty #[.slice (some ⟨g, off, none⟩) sLen sCap, .slice (some a) m c]).run P w =
      .ok (.slice (some ⟨g, off, none⟩) (sLen + m) sCap) (w.setRow g (cur.toList.take (off + sLen * i.size) ++ news ++ cur.toList.drop (off + sLen * i.size + news.length)).toArray) := by
  have hf := run_firstCells_some (P := P) w i.size m a m c news hl hnews
  have hst := run_storeCells_at P g (off + sLen * i.size) e news 0 cur w hg (by simpa using hfit) h1
  simp only [Nat.add_zero] at hst
  simp [Builtin.append_, run_underlying ht, sizeOf, typeInfo, hi, Builtin.lenOf, hroom, hf, Addr.add_lit, hst]

set_option maxRecDepth 100000 in
/-- The first element goes to the end. -/
theorem LeftIs.rot {w : World} {base : Nat} {g off n c : Nat} {x : Ans} {l : List Ans} (hlen : (x :: l).length = n) (hn : 2 ≤ n) (hn2 : n ≤ 1000) (hnc : n ≤ c) (hcm : c ≤ maxLen) (hr : Row w base g off c (n * 5) ((x :: l).flatMap ae))
    {b4 : Nat} {y : Ans} (hb : Recs ae 5 w (some ⟨b4, 0, none⟩) 1 1 [y]) (hsz : base ≤ w.heap.size) (i0 : TypeInfo) (hi : Try.prog.info? 29 = some i0) (hz0 : i0.zero = some (.agg #[.int .i64 0, .int .i64 0, .int .i64 0, .int .i64 0, .int .i64 0])) (hz1 : i0.size = 5) (hz2 : i0.bytes = 40) :
    ∃ A' c' w', (Builtin.append_ #[23, 23] 23 #[.slice (some ⟨g, off + 5, none⟩) (n - 1) (c - 1), .slice (some ⟨b4, 0, none⟩) 1 1]).run Try.prog w = .ok (.slice A' n c') w' ∧ LeftIs w' base A' n c' (l ++ [y]) ∧
      (∀ w0, Grew w0 w → w0.heap.size ≤ base → Grew w0 w') ∧ ∀ (b : Nat) (cs : Array Value), w.heap[b]? = some (.cells cs 25 (0, 0)) → w'.heap[b]? = some (.cells cs 25 (0, 0)) := by
  obtain ⟨cur, h1, h2, h3⟩ := hr.cells
  have hll : l.length = n - 1 := by rw [List.length_cons] at hlen; omega
  have hnews : ∀ j u, (ae y)[j]? = some u → w.cell? ((⟨b4, 0, none⟩ : Addr).add j) = some u := fun j u hu => by
    obtain ⟨b, o, e, hc⟩ := hb.2.2.2.2.1 (by simp [ae])
    injection e with e
    injection e with e1 e2
    subst e1 e2
    have := hc j u (by simpa [List.flatMap_cons] using hu)
    rw [Nat.zero_add] at this
    unfold Addr.add
    split
    · rename_i h0; subst h0; exact this
    · rw [Nat.zero_add]; exact this
  have hflat : (cur.toList.drop (off + 5)).take ((n - 1) * 5) = l.flatMap ae := by
    have h4 := congrArg (List.drop 5) h3
    rw [List.drop_take, List.drop_drop] at h4
    rw [show (n - 1) * 5 = n * 5 - 5 by omega, h4]
    rfl
  have e1 : n - 1 + 1 = n := by omega
  by_cases hroom : n - 1 + 1 ≤ c - 1
  · have hfit : off + 5 + (n - 1) * i0.size + (ae y).length ≤ cur.size := by rw [hz1]; show _ + 5 ≤ _; omega
    have run := run_append_room_off (P := Try.prog) w 23 23 29 i0 Try.underlying23 hi g (off + 5) (n - 1) (c - 1) cur h1 ⟨b4, 0, none⟩ 1 1 (ae y) (by rw [hz1]; rfl) hnews (fun u hu => ae_ok.one y u hu) hroom hfit
    rw [e1] at run
    refine ⟨some ⟨g, off + 5, none⟩, c - 1, _, run, ⟨by rw [List.length_append, List.length_singleton]; omega, by omega, by omega, g, off + 5, rfl, hr.lo, ⟨_, setRow_heap w g cur _ 29 (0, 0) h1, ?_, ?_⟩, by omega⟩, fun w0 hg0 hb0 => grew_setRow hg0 (Nat.le_trans hb0 hr.lo) _, fun b cs hb => (setRow_other w g b _ (fun e => by
      subst e
      rw [h1] at hb
      injection hb with hb
      injection hb with _ h5
      cases h5)).trans hb⟩
    · rw [hz1]
      simp only [List.size_toArray, List.length_append, List.length_take, List.length_drop, Array.length_toList]
      have : (ae y).length = 5 := rfl
      omega
    · rw [hz1]
      simp only []
      have e5 : (ae y).length = 5 := rfl
      rw [List.flatMap_append, List.append_assoc, List.drop_append]
      have hlt : (cur.toList.take (off + 5 + (n - 1) * 5)).length = off + 5 + (n - 1) * 5 := by rw [List.length_take, Array.length_toList]; omega
      rw [List.drop_take, hlt, show off + 5 - (off + 5 + (n - 1) * 5) = 0 by omega, List.drop_zero, List.take_append, List.take_append]
      rw [show off + 5 + (n - 1) * 5 - (off + 5) = (n - 1) * 5 by omega, hflat]
      have hfl : (l.flatMap ae).length = (n - 1) * 5 := by rw [flat_len ae_ok, hll]
      rw [hfl, List.take_of_length_le (by rw [hfl]; omega), e5, show n * 5 - (n - 1) * 5 = 5 by omega, List.take_of_length_le (by rw [e5]; omega)]
      simp
  · have hfit : Builtin.nextslicecap (n - 1 + 1) (c - 1) * i0.bytes ≤ 281474976710656 := by
      rw [hz2]
      exact growslice_fits (need := n - 1 + 1) (old := c - 1) (bytes := 40) (by omega) (by omega)
    have run := run_append_grow (P := Try.prog) w 23 23 29 i0 _ Try.underlying23 hi hz0 ⟨g, off + 5, none⟩ (n - 1) (c - 1) (l.flatMap ae) (by rw [flat_len ae_ok, hll, hz1]) (fun j v hv => by
      have h5 := hr.cell (i := 5 + j) (u := v) (by rw [List.flatMap_cons, List.getElem?_append_right (by show 5 ≤ _; omega)]; show (l.flatMap ae)[5 + j - 5]? = _; rw [show 5 + j - 5 = j by omega]; exact hv)
      unfold Addr.add
      split
      · rename_i h0; subst h0; exact h5
      · rw [← Nat.add_assoc] at h5; exact h5) ⟨b4, 0, none⟩ 1 1 (ae y) (by rw [hz1]; rfl) hnews (by omega) (by omega) hfit
    rw [e1] at run
    have hge := grownCap_ge w n (c - 1) 29
    have hgm := grownCap_le_maxLen w n (c - 1) 29 (by unfold maxLen; omega)
    refine ⟨some ⟨w.heap.size, 0, none⟩, grownCap w n (c - 1) 29, _, run, ⟨by rw [List.length_append, List.length_singleton]; omega, by omega, hgm, w.heap.size, 0, rfl, hsz, ⟨_, heap_alloc_new w.drew _, ?_, ?_⟩, by omega⟩, fun w0 hg0 hb0 => ?_, fun b cs hb => (((Grew.refl w).drew).alloc _).block hb⟩
    · simp only [Array.size_append, List.size_toArray, size_zeroCells, flat_len ae_ok]
      have : (ae y).length = 5 := rfl
      have h9 : (Value.agg #[.int .i64 0, .int .i64 0, .int .i64 0, .int .i64 0, .int .i64 0]).cells.size = 5 := rfl
      rw [h9, hll]
      omega
    · simp only [List.drop_zero, Array.toList_append]
      rw [List.flatMap_append, List.append_assoc, List.take_append, List.take_append]
      have hfl : (l.flatMap ae).length = (n - 1) * 5 := by rw [flat_len ae_ok, hll]
      have e5 : (ae y).length = 5 := rfl
      rw [hfl, List.take_of_length_le (by rw [hfl]; omega), e5, show n * 5 - (n - 1) * 5 = 5 by omega, List.take_of_length_le (by rw [e5]; omega)]
      simp
    · exact (hg0.drew).alloc _
end Go.Proofs.Ytaocjobbfcfleaa
