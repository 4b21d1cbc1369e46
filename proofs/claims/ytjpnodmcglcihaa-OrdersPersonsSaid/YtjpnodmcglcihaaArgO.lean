/-
  What an argument reads as: a slice of orders, an order.
-/
import Derived.Test.YtjpnodmcglcihaaValid
import Derived.Deep.Slices
import Derived.Deep.Fields
import Derived.ChangeSame
import Derived.ChangeSlices
import Derived.ChangeMaps5
import Derived.Lib.SmallJoins
import Derived.OpenShut
import Derived.ProofKit
namespace Go.Proofs.Ytjpnodmcglcihaa
open Go.ChangeShapes Go.WideShapes Go.ChangeAt Go.RowKit Go.Deep Go.Joins Go.Proofs WageMem WageOrd WageRec

section
variable {H : Type} {enc : TypeId × Value → H} {w : World} {base : Nat} {spare : Nat → Bool} {held : Bool}
theorem plain_row {a : Addr} {v : Value} (h : w.cell? (a.add 0) = some v) : ∃ b o, a = ⟨b, o, none⟩ := by
  have : a.add 0 = a := by unfold Addr.add; rw [if_pos rfl]
  rw [this] at h
  obtain ⟨b, o, s⟩ := a
  have := World.cell?_spot h
  simp at this
  subst this
  exact ⟨b, o, rfl⟩
theorem k3 : Try.prog.cellsOf 3 = 1 := by kernel_rfl
theorem k9 : Try.prog.cellsOf 9 = 1 := by kernel_rfl
theorem k4 : Try.prog.cellsOf 4 = 1 := by kernel_rfl
theorem c24 : Try.prog.cellsOf 24 = 8 := by kernel_rfl
theorem ord_trod {fuel : Nat} {cs : List Value} {x : DataW H × List MemPlace} (h : DataW.trod enc Try.prog w base spare held fuel 24 cs = some x) : ∃ o : Ord, cs = oe o ∧ Wf [o] := by
  obtain ⟨ys, n', hn', hy, hlen, hyl, hf⟩ := DataW.trod_struct Try.underlying24 h
  rw [c24] at hlen
  match cs, hlen with
  | [v0, v1, v2, v3, v4, v5, v6, v7], _ =>
    match ys, hyl with
    | [y0, y1, y2, y3, y4, y5, y6, y7], _ =>
      have g0 : DataW.trod enc Try.prog w base spare held n' 3 [v0] = some y0 := by have := hf 0 _ rfl; simpa [k3] using this
      obtain ⟨z0, hz0, _, wf0⟩ := DataW.trod_int Try.underlying3 g0
      simp at hz0
      have g1 : DataW.trod enc Try.prog w base spare held n' 9 [v1] = some y1 := by have := hf 1 _ rfl; simpa [k9] using this
      obtain ⟨z1, hz1, _, wf1⟩ := DataW.trod_string Try.underlying9 g1
      simp at hz1
      have g2 : DataW.trod enc Try.prog w base spare held n' 9 [v2] = some y2 := by have := hf 2 _ rfl; simpa [k9] using this
      obtain ⟨z2, hz2, _, wf2⟩ := DataW.trod_string Try.underlying9 g2
      simp at hz2
      have g3 : DataW.trod enc Try.prog w base spare held n' 3 [v3] = some y3 := by have := hf 3 _ rfl; simpa [k3] using this
      obtain ⟨z3, hz3, _, wf3⟩ := DataW.trod_int Try.underlying3 g3
      simp at hz3
      have g4 : DataW.trod enc Try.prog w base spare held n' 3 [v4] = some y4 := by have := hf 4 _ rfl; simpa [k3] using this
      obtain ⟨z4, hz4, _, wf4⟩ := DataW.trod_int Try.underlying3 g4
      simp at hz4
      have g5 : DataW.trod enc Try.prog w base spare held n' 3 [v5] = some y5 := by have := hf 5 _ rfl; simpa [k3] using this
      obtain ⟨z5, hz5, _, wf5⟩ := DataW.trod_int Try.underlying3 g5
      simp at hz5
      have g6 : DataW.trod enc Try.prog w base spare held n' 3 [v6] = some y6 := by have := hf 6 _ rfl; simpa [k3] using this
      obtain ⟨z6, hz6, _, wf6⟩ := DataW.trod_int Try.underlying3 g6
      simp at hz6
      have g7 : DataW.trod enc Try.prog w base spare held n' 4 [v7] = some y7 := by have := hf 7 _ rfl; simpa [k4] using this
      obtain ⟨z7, hz7, _⟩ := DataW.trod_bool Try.underlying4 g7
      simp at hz7
      refine ⟨⟨z0, z1, z2, z3, z4, z5, z6, z7⟩, by rw [hz0, hz1, hz2, hz3, hz4, hz5, hz6, hz7]; rfl, fun o ho => ?_⟩
      obtain rfl : o = _ := by simpa using ho
      exact ⟨wf1, wf2, bounds_i64 wf0, bounds_i64 wf4⟩
theorem open_ord {v : Value} {d : DataW H} {p : List MemPlace} {r : Reach} {b0 : Nat} (hv : Value.okWide Try.prog w r b0 24 v) (h : DataW.Trod enc Try.prog w base spare held 24 v d p) : ∃ o : Ord, v = ov o ∧ Wf [o] := by
  obtain ⟨cs, rfl, hsz⟩ := okWide_struct Try.underlying24 hv
  obtain ⟨fuel, hf⟩ := h
  obtain ⟨o, ho, hw⟩ := ord_trod hf
  refine ⟨o, ?_, hw⟩
  have : cs = (oe o).toArray := by
    apply Array.toList_inj.1
    simpa [Value.cells] using ho
  rw [this]
  rfl
theorem open_ords {fuel : Nat} {cs : List Value} {x : DataW H × List MemPlace} (h : DataW.trod enc Try.prog w base spare held fuel 22 cs = some x) : ∃ A n c l, cs = [.slice A n c] ∧ Ords w A n c l := by
  rcases open_slice Try.underlying22 h with ⟨hcs, _⟩ | ⟨a, l, c, m, nf, D, Pl, hcs, hb, hl, hm, hmm, hx, hi⟩
  · exact ⟨none, 0, 0, [], hcs, Recs.none_, fun x hx => by simp at hx⟩
  · have hlm : l ≤ m := by rw [hmm]; split <;> omega
    have each : ∀ i, i < m → ∃ o : Ord, (∀ j u, (oe o)[j]? = some u → w.cell? (a.add (i * 8 + j)) = some u) ∧ Wf [o] := by
      intro i him
      obtain ⟨cs', hc, ht'⟩ := hi i him
      rw [c24] at hc
      obtain ⟨o, rfl, hw⟩ := ord_trod ht'
      obtain ⟨_, hcl, hat⟩ := World.cells?_some hc
      refine ⟨o, fun j u hu => ?_, hw⟩
      have hj := (List.getElem?_eq_some_iff.1 hu)
      obtain ⟨hj1, hj2⟩ := hj
      have h1 := hat j (by simpa [hcl] using hj1)
      rw [Go.Deep.add_add] at h1
      rw [h1, ← hj2]
      simp
    obtain ⟨f, hf⟩ : ∃ f : Nat → Ord, ∀ i, i < m → (∀ j u, (oe (f i))[j]? = some u → w.cell? (a.add (i * 8 + j)) = some u) ∧ Wf [f i] :=
      ⟨fun i => if h : i < m then Classical.choose (each i h) else ⟨0, ByteArray.empty, ByteArray.empty, 0, 0, 0, 0, false⟩, fun i hi => by
        have := Classical.choose_spec (each i hi)
        simp only [dif_pos hi]
        exact this⟩
    refine ⟨some a, l, c, (List.range l).map f, hcs, ⟨by simp, hl, hm, by rw [flat_len oe_ok]; simp, fun hne => ?_, fun h => by cases h⟩, fun s hs => ?_⟩
    · have h0l : 0 < l := by
        rcases Nat.eq_zero_or_pos l with h | h
        · subst h; exact absurd rfl hne
        · exact h
      have h0 := (hf 0 (by omega)).1 0 _ rfl
      rw [Nat.zero_mul] at h0
      obtain ⟨b, o, rfl⟩ := plain_row h0
      refine ⟨b, o, rfl, fun j u hu => ?_⟩
      have hjl : j < l * 8 := by have := (List.getElem?_eq_some_iff.1 hu).1; rw [flat_len oe_ok] at this; simpa using this
      have hk : j / 8 < l := by omega
      have hs : ((List.range l).map f)[j / 8]? = some (f (j / 8)) := by rw [List.getElem?_map, List.getElem?_range hk]; rfl
      have hlen : j % 8 < (oe (f (j / 8))).length := by have : (oe (f (j / 8))).length = 8 := rfl; omega
      have hu' := flat_at oe_ok hs (List.getElem?_eq_getElem hlen)
      rw [show j / 8 * 8 + j % 8 = j by omega, hu] at hu'
      have := (hf (j / 8) (by omega)).1 (j % 8) _ (List.getElem?_eq_getElem hlen)
      rw [addr_add_plain, show j / 8 * 8 + j % 8 = j by omega] at this
      rw [this, hu']
    · obtain ⟨i, hi', rfl⟩ := List.mem_map.1 hs
      exact (hf i (by have := List.mem_range.1 hi'; omega)).2 _ (by simp)
theorem open_ordArg {v : Value} {d : DataW H} {p : List MemPlace} {r : Reach} {b0 : Nat} (hv : Value.okWide Try.prog w r b0 22 v) (h : DataW.Trod enc Try.prog w base spare held 22 v d p) : ∃ A n c l, v = .slice A n c ∧ Ords w A n c l := by
  obtain ⟨a, l, c, rfl⟩ := okWide_slice Try.underlying22 hv
  obtain ⟨fuel, hf⟩ := h
  obtain ⟨A, n, c', bs, e, hB⟩ := open_ords hf
  simp [Value.cells] at e
  obtain ⟨rfl, rfl, rfl⟩ := e
  exact ⟨_, _, _, bs, rfl, hB⟩
end
end Go.Proofs.Ytjpnodmcglcihaa
