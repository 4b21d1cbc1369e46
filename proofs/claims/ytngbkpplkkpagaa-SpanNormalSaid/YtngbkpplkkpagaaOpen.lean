/-
  What an argument reads as: a slice of spans.
-/
import Derived.Test.YtngbkpplkkpagaaSp
import Derived.Deep.Slices
import Derived.Deep.Fields
import Derived.ChangeSame
import Derived.ChangeSlices
import Derived.Lib.SmallJoins
import Derived.OpenShut
import Derived.ProofKit
namespace Go.Proofs.Ytngbkpplkkpagaa
open Go.ChangeShapes Go.WideShapes Go.ChangeAt Go.RowKit Go.Deep Go.Joins Go.Proofs WageMem WageSpan

section
variable {H : Type} {enc : TypeId × Value → H} {w : World} {base : Nat} {spare : Nat → Bool} {held : Bool}
theorem plain_of {a : Addr} {v : Value} (h : w.cell? a = some v) : ∃ b o, a = ⟨b, o, none⟩ := by
  obtain ⟨b, o, s⟩ := a
  have := World.cell?_spot h
  simp at this
  subst this
  exact ⟨b, o, rfl⟩
theorem plain_row {a : Addr} {v : Value} (h : w.cell? (a.add 0) = some v) : ∃ b o, a = ⟨b, o, none⟩ := by
  have : a.add 0 = a := by unfold Addr.add; rw [if_pos rfl]
  rw [this] at h
  exact plain_of h
theorem flat_pos {ss : List Sp} {j : Nat} {u : Value} (h : (flat ss)[j]? = some u) : ∃ k s, ss[k]? = some s ∧ ((j = k * 2 ∧ u = .int .i64 s.1) ∨ (j = k * 2 + 1 ∧ u = .int .i64 s.2)) := by
  have hl : j < ss.length * 2 := by have := (List.getElem?_eq_some_iff.1 h).1; rwa [flat_len] at this
  have hk : j / 2 < ss.length := by omega
  have hs : ss[j / 2]? = some ss[j / 2] := List.getElem?_eq_getElem hk
  obtain ⟨f1, f2⟩ := flat_at ss (j / 2) _ hs
  refine ⟨j / 2, _, hs, ?_⟩
  rcases Nat.mod_two_eq_zero_or_one j with h0 | h0
  · left
    rw [show j / 2 * 2 = j by omega, h] at f1
    injection f1 with f1
    exact ⟨by omega, f1⟩
  · right
    rw [show j / 2 * 2 + 1 = j by omega, h] at f2
    injection f2 with f2
    exact ⟨by omega, f2⟩
theorem open_spans {fuel : Nat} {cs : List Value} {x : DataW H × List MemPlace} (h : DataW.trod enc Try.prog w base spare held fuel 22 cs = some x) : ∃ A n c ss, cs = [.slice A n c] ∧ Spans w A n c ss := by
  rcases open_slice Try.underlying22 h with ⟨hcs, _⟩ | ⟨a, l, c, m, nf, D, Pl, hcs, hb, hl, hm, hmm, hx, hi⟩
  · exact ⟨none, 0, 0, [], hcs, Spans.none_⟩
  · have hlm : l ≤ m := by rw [hmm]; split <;> omega
    have hC : Try.prog.cellsOf 33 = 2 := by kernel_rfl
    have hone : oneCellFields Try.prog _ = true := (by kernel_rfl : oneCellFields Try.prog #[{ name := "From", type := 3, offset := 0, embedded := false, tag := "", pkgPath := "", byteOffset := 0 }, { name := "To", type := 3, offset := 1, embedded := false, tag := "", pkgPath := "", byteOffset := 8 }] = true)
    have each : ∀ i, i < m → ∃ s : Sp, w.cell? (a.add (i * 2)) = some (.int .i64 s.1) ∧ w.cell? (a.add (i * 2 + 1)) = some (.int .i64 s.2) ∧ (-9223372036854775808 ≤ s.1 ∧ s.1 ≤ 9223372036854775807) ∧ (-9223372036854775808 ≤ s.2 ∧ s.2 ≤ 9223372036854775807) := by
      intro i him
      obtain ⟨cs', hc, ht'⟩ := hi i him
      rw [hC] at hc
      obtain ⟨ys, n', hn', hy, hlen, hyl, hf⟩ := DataW.trod_struct Try.underlying33 ht'
      obtain ⟨_, hcl, hat⟩ := World.cells?_some hc
      match cs', hcl with
      | [v0, v1], _ =>
        have h0 := hat 0 (by decide)
        have h1 := hat 1 (by decide)
        obtain ⟨o0, k0⟩ := hone_of hone 0 _ rfl
        obtain ⟨o1, k1⟩ := hone_of hone 1 _ rfl
        have f0 := hf 0 _ rfl
        have f1 := hf 1 _ rfl
        rw [k0] at f0
        rw [k1] at f1
        match ys, hyl with
        | [y0, y1], _ =>
          have g0 : DataW.trod enc Try.prog w base spare held n' 3 [v0] = some y0 := by simpa using f0
          have g1 : DataW.trod enc Try.prog w base spare held n' 3 [v1] = some y1 := by simpa using f1
          obtain ⟨z, hz, _, hwf⟩ := DataW.trod_int Try.underlying3 g0
          obtain ⟨z', hz', _, hwf'⟩ := DataW.trod_int Try.underlying3 g1
          simp at hz hz'
          subst hz hz'
          have hbd := bounds_i64 hwf
          have hbd' := bounds_i64 hwf'
          rw [Go.Deep.add_add] at h0 h1
          exact ⟨(z, z'), by simpa using h0, by simpa using h1, hbd, hbd'⟩
    obtain ⟨f, hf⟩ : ∃ f : Nat → Sp, ∀ i, i < m → w.cell? (a.add (i * 2)) = some (.int .i64 (f i).1) ∧ w.cell? (a.add (i * 2 + 1)) = some (.int .i64 (f i).2) ∧ (-9223372036854775808 ≤ (f i).1 ∧ (f i).1 ≤ 9223372036854775807) ∧ (-9223372036854775808 ≤ (f i).2 ∧ (f i).2 ≤ 9223372036854775807) :=
      ⟨fun i => if h : i < m then Classical.choose (each i h) else (0, 0), fun i hi => by
        have := Classical.choose_spec (each i hi)
        simp only [dif_pos hi]
        exact this⟩
    refine ⟨some a, l, c, (List.range l).map f, hcs, by simp, ⟨hl, hm, by rw [flat_len]; simp, fun hne => ?_, fun h => by cases h⟩, fun s hs => ?_⟩
    · have h0l : 0 < l := by
        rcases Nat.eq_zero_or_pos l with h | h
        · subst h; exact absurd rfl hne
        · exact h
      have h0 := (hf 0 (by omega)).1
      rw [Nat.zero_mul] at h0
      obtain ⟨b, o, rfl⟩ := plain_row h0
      refine ⟨b, o, rfl, fun j u hu => ?_⟩
      obtain ⟨k, s, hs, hju⟩ := flat_pos hu
      have hk : k < l := by have := (List.getElem?_eq_some_iff.1 hs).1; simpa using this
      rw [List.getElem?_map, List.getElem?_range hk] at hs
      simp at hs
      subst hs
      have hk2 := hf k (by omega)
      rcases hju with ⟨rfl, rfl⟩ | ⟨rfl, rfl⟩
      · have := hk2.1; rwa [addp] at this
      · have := hk2.2.1; rwa [addp] at this
    · obtain ⟨i, hi', rfl⟩ := List.mem_map.1 hs
      have := hf i (by have := List.mem_range.1 hi'; omega)
      exact ⟨this.2.2.1, this.2.2.2⟩
theorem open_spanArg {v : Value} {d : DataW H} {p : List MemPlace} {r : Reach} {b0 : Nat} (hv : Value.okWide Try.prog w r b0 22 v) (h : DataW.Trod enc Try.prog w base spare held 22 v d p) : ∃ A n c ss, v = .slice A n c ∧ Spans w A n c ss := by
  obtain ⟨a, l, c, rfl⟩ := okWide_slice Try.underlying22 hv
  obtain ⟨fuel, hf⟩ := h
  obtain ⟨A, n, c', bs, e, hB⟩ := open_spans hf
  simp [Value.cells] at e
  obtain ⟨rfl, rfl, rfl⟩ := e
  exact ⟨_, _, _, bs, rfl, hB⟩
end
end Go.Proofs.Ytngbkpplkkpagaa
