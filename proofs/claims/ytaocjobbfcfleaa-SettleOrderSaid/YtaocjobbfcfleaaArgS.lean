/-
  What an argument reads as: a desk, a payment, an answer, slices of these, a slice of bytes.
-/
import Derived.Test.YtaocjobbfcfleaaValO
import Derived.Deep.Slices
import Derived.Deep.Fields
import Derived.ChangeSame
import Derived.ChangeSlices
import Derived.ChangeMaps5
import Derived.Lib.SmallJoins
import Derived.OpenShut
import Derived.ProofKit
namespace Go.Proofs.Ytaocjobbfcfleaa
open Go.ChangeShapes Go.WideShapes Go.ChangeAt Go.RowKit Go.Deep Go.Joins Go.Proofs WageMem WageOrd WageRec WageSet

section
variable {H : Type} {enc : TypeId × Value → H} {w : World} {base : Nat} {spare : Nat → Bool} {held : Bool}
theorem plain_row {a : Addr} {v : Value} (h : w.cell? (a.add 0) = some v) : ∃ b o, a = ⟨b, o, none⟩ := by
  have : a.add 0 = a := by unfold Addr.add; rw [if_pos rfl]
  rw [this] at h
  obtain ⟨b, o, s⟩ := a
  have := World.cell?_spot h
  simp at this
  subst this
  exact ⟨b, o, rfl⟩
theorem k3 : Try.prog.cellsOf 3 = 1 := by kernel_rfl
theorem k9 : Try.prog.cellsOf 9 = 1 := by kernel_rfl
theorem k27 : Try.prog.cellsOf 27 = 4 := by kernel_rfl
theorem c27 : Try.prog.cellsOf 27 = 4 := by kernel_rfl
theorem c29 : Try.prog.cellsOf 29 = 5 := by kernel_rfl
theorem c43 : Try.prog.cellsOf 43 = 7 := by kernel_rfl
set_option maxRecDepth 100000 in
theorem pay_trod {fuel : Nat} {cs : List Value} {x : DataW H × List MemPlace} (h : DataW.trod enc Try.prog w base spare held fuel 27 cs = some x) : ∃ o : Pay, cs = pe o ∧ o.acc.size ≤ maxLen := by
  obtain ⟨ys, n', hn', hy, hlen, hyl, hf⟩ := DataW.trod_struct Try.underlying27 h
  rw [c27] at hlen
  match cs, hlen with
  | [v0, v1, v2, v3], _ =>
    match ys, hyl with
    | [y0, y1, y2, y3], _ =>
      have g0 : DataW.trod enc Try.prog w base spare held n' 3 [v0] = some y0 := by have := hf 0 _ rfl; simpa [k3] using this
      obtain ⟨z0, hz0, _, _⟩ := DataW.trod_int Try.underlying3 g0
      simp at hz0
      have g1 : DataW.trod enc Try.prog w base spare held n' 9 [v1] = some y1 := by have := hf 1 _ rfl; simpa [k9] using this
      obtain ⟨z1, hz1, _, wf1⟩ := DataW.trod_string Try.underlying9 g1
      simp at hz1
      have g2 : DataW.trod enc Try.prog w base spare held n' 3 [v2] = some y2 := by have := hf 2 _ rfl; simpa [k3] using this
      obtain ⟨z2, hz2, _, _⟩ := DataW.trod_int Try.underlying3 g2
      simp at hz2
      have g3 : DataW.trod enc Try.prog w base spare held n' 3 [v3] = some y3 := by have := hf 3 _ rfl; simpa [k3] using this
      obtain ⟨z3, hz3, _, _⟩ := DataW.trod_int Try.underlying3 g3
      simp at hz3
      exact ⟨⟨z0, z1, z2, z3⟩, by rw [hz0, hz1, hz2, hz3]; rfl, wf1⟩
set_option maxRecDepth 100000 in
theorem ans_trod {fuel : Nat} {cs : List Value} {x : DataW H × List MemPlace} (h : DataW.trod enc Try.prog w base spare held fuel 29 cs = some x) : ∃ o : Ans, cs = ae o ∧ True := by
  obtain ⟨ys, n', hn', hy, hlen, hyl, hf⟩ := DataW.trod_struct Try.underlying29 h
  rw [c29] at hlen
  match cs, hlen with
  | [v0, v1, v2, v3, v4], _ =>
    match ys, hyl with
    | [y0, y1, y2, y3, y4], _ =>
      have g0 : DataW.trod enc Try.prog w base spare held n' 3 [v0] = some y0 := by have := hf 0 _ rfl; simpa [k3] using this
      obtain ⟨z0, hz0, _, _⟩ := DataW.trod_int Try.underlying3 g0
      simp at hz0
      have g1 : DataW.trod enc Try.prog w base spare held n' 3 [v1] = some y1 := by have := hf 1 _ rfl; simpa [k3] using this
      obtain ⟨z1, hz1, _, _⟩ := DataW.trod_int Try.underlying3 g1
      simp at hz1
      have g2 : DataW.trod enc Try.prog w base spare held n' 3 [v2] = some y2 := by have := hf 2 _ rfl; simpa [k3] using this
      obtain ⟨z2, hz2, _, _⟩ := DataW.trod_int Try.underlying3 g2
      simp at hz2
      have g3 : DataW.trod enc Try.prog w base spare held n' 3 [v3] = some y3 := by have := hf 3 _ rfl; simpa [k3] using this
      obtain ⟨z3, hz3, _, _⟩ := DataW.trod_int Try.underlying3 g3
      simp at hz3
      have g4 : DataW.trod enc Try.prog w base spare held n' 3 [v4] = some y4 := by have := hf 4 _ rfl; simpa [k3] using this
      obtain ⟨z4, hz4, _, _⟩ := DataW.trod_int Try.underlying3 g4
      simp at hz4
      exact ⟨⟨z0, z1, z2, z3, z4⟩, by rw [hz0, hz1, hz2, hz3, hz4]; rfl, trivial⟩
set_option maxRecDepth 100000 in
theorem sta_trod {fuel : Nat} {cs : List Value} {x : DataW H × List MemPlace} (h : DataW.trod enc Try.prog w base spare held fuel 43 cs = some x) : ∃ o : Sta, cs = se o ∧ o.p.acc.size ≤ maxLen := by
  obtain ⟨ys, n', hn', hy, hlen, hyl, hf⟩ := DataW.trod_struct Try.underlying43 h
  rw [c43] at hlen
  match cs, hlen with
  | [v0, v1, v2, v3, v4, v5, v6], _ =>
    match ys, hyl with
    | [y0, y1, y2, y3], _ =>
      have g0 : DataW.trod enc Try.prog w base spare held n' 27 [v0, v1, v2, v3] = some y0 := by have := hf 0 _ rfl; simpa [k27] using this
      obtain ⟨z0, hz0, wf0⟩ := pay_trod g0
      unfold pe at hz0
      simp at hz0
      obtain ⟨q0, q1, q2, q3⟩ := hz0
      have g1 : DataW.trod enc Try.prog w base spare held n' 3 [v4] = some y1 := by have := hf 1 _ rfl; simpa [k3] using this
      obtain ⟨z1, hz1, _, _⟩ := DataW.trod_int Try.underlying3 g1
      simp at hz1
      have g2 : DataW.trod enc Try.prog w base spare held n' 3 [v5] = some y2 := by have := hf 2 _ rfl; simpa [k3] using this
      obtain ⟨z2, hz2, _, _⟩ := DataW.trod_int Try.underlying3 g2
      simp at hz2
      have g3 : DataW.trod enc Try.prog w base spare held n' 3 [v6] = some y3 := by have := hf 3 _ rfl; simpa [k3] using this
      obtain ⟨z3, hz3, _, _⟩ := DataW.trod_int Try.underlying3 g3
      simp at hz3
      exact ⟨⟨z0, z1, z2, z3⟩, by rw [q0, q1, q2, q3, hz1, hz2, hz3]; rfl, wf0⟩
set_option maxRecDepth 100000 in
theorem open_pay {v : Value} {d : DataW H} {p : List MemPlace} {r : Reach} {b0 : Nat} (hv : Value.okWide Try.prog w r b0 27 v) (h : DataW.Trod enc Try.prog w base spare held 27 v d p) : ∃ o : Pay, v = pv o ∧ o.acc.size ≤ maxLen := by
  obtain ⟨cs, rfl, hsz⟩ := okWide_struct Try.underlying27 hv
  obtain ⟨fuel, hf⟩ := h
  obtain ⟨o, ho, hw⟩ := pay_trod hf
  refine ⟨o, ?_, hw⟩
  have : cs = (pe o).toArray := by
    apply Array.toList_inj.1
    simpa [Value.cells] using ho
  rw [this]
  rfl
set_option maxRecDepth 100000 in
theorem open_ans {v : Value} {d : DataW H} {p : List MemPlace} {r : Reach} {b0 : Nat} (hv : Value.okWide Try.prog w r b0 29 v) (h : DataW.Trod enc Try.prog w base spare held 29 v d p) : ∃ o : Ans, v = av o ∧ True := by
  obtain ⟨cs, rfl, hsz⟩ := okWide_struct Try.underlying29 hv
  obtain ⟨fuel, hf⟩ := h
  obtain ⟨o, ho, hw⟩ := ans_trod hf
  refine ⟨o, ?_, hw⟩
  have : cs = (ae o).toArray := by
    apply Array.toList_inj.1
    simpa [Value.cells] using ho
  rw [this]
  rfl
set_option maxRecDepth 100000 in
theorem open_anss {fuel : Nat} {cs : List Value} {x : DataW H × List MemPlace} (h : DataW.trod enc Try.prog w base spare held fuel 23 cs = some x) : ∃ A n c l, cs = [.slice A n c] ∧ Recs ae 5 w A n c l ∧ ∀ o ∈ l, True := by
  rcases open_slice Try.underlying23 h with ⟨hcs, _⟩ | ⟨a, l, c, m, nf, D, Pl, hcs, hb, hl, hm, hmm, hx, hi⟩
  · exact ⟨none, 0, 0, [], hcs, Recs.none_, fun x hx => by simp at hx⟩
  · have hlm : l ≤ m := by rw [hmm]; split <;> omega
    have each : ∀ i, i < m → ∃ o : Ans, (∀ j u, (ae o)[j]? = some u → w.cell? (a.add (i * 5 + j)) = some u) ∧ True := by
      intro i him
      obtain ⟨cs', hc, ht'⟩ := hi i him
      rw [c29] at hc
      obtain ⟨o, rfl, hw⟩ := ans_trod ht'
      obtain ⟨_, hcl, hat⟩ := World.cells?_some hc
      refine ⟨o, fun j u hu => ?_, hw⟩
      have hj := (List.getElem?_eq_some_iff.1 hu)
      obtain ⟨hj1, hj2⟩ := hj
      have h1 := hat j (by simpa [hcl] using hj1)
      rw [Go.Deep.add_add] at h1
      rw [h1, ← hj2]
      simp
    obtain ⟨f, hf⟩ : ∃ f : Nat → Ans, ∀ i, i < m → (∀ j u, (ae (f i))[j]? = some u → w.cell? (a.add (i * 5 + j)) = some u) ∧ True :=
      ⟨fun i => if h : i < m then Classical.choose (each i h) else ⟨0, 0, 0, 0, 0⟩, fun i hi => by
        have := Classical.choose_spec (each i hi)
        simp only [dif_pos hi]
        exact this⟩
    refine ⟨some a, l, c, (List.range l).map f, hcs, ⟨by simp, hl, hm, by rw [flat_len ae_ok]; simp, fun hne => ?_, fun h => by cases h⟩, fun s hs => ?_⟩
    · have h0l : 0 < l := by
        rcases Nat.eq_zero_or_pos l with h | h
        · subst h; exact absurd rfl hne
        · exact h
      have h0 := (hf 0 (by omega)).1 0 _ rfl
      rw [Nat.zero_mul] at h0
      obtain ⟨b, o, rfl⟩ := plain_row h0
      refine ⟨b, o, rfl, fun j u hu => ?_⟩
      have hjl : j < l * 5 := by have := (List.getElem?_eq_some_iff.1 hu).1; rw [flat_len ae_ok] at this; simpa using this
      have hk : j / 5 < l := by omega
      have hs : ((List.range l).map f)[j / 5]? = some (f (j / 5)) := by rw [List.getElem?_map, List.getElem?_range hk]; rfl
      have hlen : j % 5 < (ae (f (j / 5))).length := by have : (ae (f (j / 5))).length = 5 := rfl; omega
      have hu' := flat_at ae_ok hs (List.getElem?_eq_getElem hlen)
      rw [show j / 5 * 5 + j % 5 = j by omega, hu] at hu'
      have := (hf (j / 5) (by omega)).1 (j % 5) _ (List.getElem?_eq_getElem hlen)
      rw [addr_add_plain, show j / 5 * 5 + j % 5 = j by omega] at this
      rw [this, hu']
    · obtain ⟨i, hi', rfl⟩ := List.mem_map.1 hs
      exact (hf i (by have := List.mem_range.1 hi'; omega)).2
set_option maxRecDepth 100000 in
theorem open_anssArg {v : Value} {d : DataW H} {p : List MemPlace} {r : Reach} {b0 : Nat} (hv : Value.okWide Try.prog w r b0 23 v) (h : DataW.Trod enc Try.prog w base spare held 23 v d p) : ∃ A n c l, v = .slice A n c ∧ Anss w A n c l := by
  obtain ⟨a, l, c, rfl⟩ := okWide_slice Try.underlying23 hv
  obtain ⟨fuel, hf⟩ := h
  obtain ⟨A, n, c', bs, e, hB, hW⟩ := open_anss hf
  simp [Value.cells] at e
  obtain ⟨rfl, rfl, rfl⟩ := e
  exact ⟨_, _, _, bs, rfl, hB⟩
set_option maxRecDepth 100000 in
theorem open_stas {fuel : Nat} {cs : List Value} {x : DataW H × List MemPlace} (h : DataW.trod enc Try.prog w base spare held fuel 22 cs = some x) : ∃ A n c l, cs = [.slice A n c] ∧ Recs se 7 w A n c l ∧ ∀ o ∈ l, o.p.acc.size ≤ maxLen := by
  rcases open_slice Try.underlying22 h with ⟨hcs, _⟩ | ⟨a, l, c, m, nf, D, Pl, hcs, hb, hl, hm, hmm, hx, hi⟩
  · exact ⟨none, 0, 0, [], hcs, Recs.none_, fun x hx => by simp at hx⟩
  · have hlm : l ≤ m := by rw [hmm]; split <;> omega
    have each : ∀ i, i < m → ∃ o : Sta, (∀ j u, (se o)[j]? = some u → w.cell? (a.add (i * 7 + j)) = some u) ∧ o.p.acc.size ≤ maxLen := by
      intro i him
      obtain ⟨cs', hc, ht'⟩ := hi i him
      rw [c43] at hc
      obtain ⟨o, rfl, hw⟩ := sta_trod ht'
      obtain ⟨_, hcl, hat⟩ := World.cells?_some hc
      refine ⟨o, fun j u hu => ?_, hw⟩
      have hj := (List.getElem?_eq_some_iff.1 hu)
      obtain ⟨hj1, hj2⟩ := hj
      have h1 := hat j (by simpa [hcl] using hj1)
      rw [Go.Deep.add_add] at h1
      rw [h1, ← hj2]
      simp
    obtain ⟨f, hf⟩ : ∃ f : Nat → Sta, ∀ i, i < m → (∀ j u, (se (f i))[j]? = some u → w.cell? (a.add (i * 7 + j)) = some u) ∧ (f i).p.acc.size ≤ maxLen :=
      ⟨fun i => if h : i < m then Classical.choose (each i h) else ⟨⟨0, ByteArray.empty, 0, 0⟩, 0, 0, 0⟩, fun i hi => by
        have := Classical.choose_spec (each i hi)
        simp only [dif_pos hi]
        exact this⟩
    refine ⟨some a, l, c, (List.range l).map f, hcs, ⟨by simp, hl, hm, by rw [flat_len se_ok]; simp, fun hne => ?_, fun h => by cases h⟩, fun s hs => ?_⟩
    · have h0l : 0 < l := by
        rcases Nat.eq_zero_or_pos l with h | h
        · subst h; exact absurd rfl hne
        · exact h
      have h0 := (hf 0 (by omega)).1 0 _ rfl
      rw [Nat.zero_mul] at h0
      obtain ⟨b, o, rfl⟩ := plain_row h0
      refine ⟨b, o, rfl, fun j u hu => ?_⟩
      have hjl : j < l * 7 := by have := (List.getElem?_eq_some_iff.1 hu).1; rw [flat_len se_ok] at this; simpa using this
      have hk : j / 7 < l := by omega
      have hs : ((List.range l).map f)[j / 7]? = some (f (j / 7)) := by rw [List.getElem?_map, List.getElem?_range hk]; rfl
      have hlen : j % 7 < (se (f (j / 7))).length := by have : (se (f (j / 7))).length = 7 := rfl; omega
      have hu' := flat_at se_ok hs (List.getElem?_eq_getElem hlen)
      rw [show j / 7 * 7 + j % 7 = j by omega, hu] at hu'
      have := (hf (j / 7) (by omega)).1 (j % 7) _ (List.getElem?_eq_getElem hlen)
      rw [addr_add_plain, show j / 7 * 7 + j % 7 = j by omega] at this
      rw [this, hu']
    · obtain ⟨i, hi', rfl⟩ := List.mem_map.1 hs
      exact (hf i (by have := List.mem_range.1 hi'; omega)).2
set_option maxRecDepth 100000 in
theorem open_stasArg {v : Value} {d : DataW H} {p : List MemPlace} {r : Reach} {b0 : Nat} (hv : Value.okWide Try.prog w r b0 22 v) (h : DataW.Trod enc Try.prog w base spare held 22 v d p) : ∃ A n c l, v = .slice A n c ∧ Stas w A n c l := by
  obtain ⟨a, l, c, rfl⟩ := okWide_slice Try.underlying22 hv
  obtain ⟨fuel, hf⟩ := h
  obtain ⟨A, n, c', bs, e, hB, hW⟩ := open_stas hf
  simp [Value.cells] at e
  obtain ⟨rfl, rfl, rfl⟩ := e
  exact ⟨_, _, _, bs, rfl, ⟨hB, hW⟩⟩
set_option maxRecDepth 100000 in
theorem open_pays {fuel : Nat} {cs : List Value} {x : DataW H × List MemPlace} (h : DataW.trod enc Try.prog w base spare held fuel 52 cs = some x) : ∃ A n c l, cs = [.slice A n c] ∧ Recs pe 4 w A n c l ∧ ∀ o ∈ l, o.acc.size ≤ maxLen := by
  rcases open_slice Try.underlying52 h with ⟨hcs, _⟩ | ⟨a, l, c, m, nf, D, Pl, hcs, hb, hl, hm, hmm, hx, hi⟩
  · exact ⟨none, 0, 0, [], hcs, Recs.none_, fun x hx => by simp at hx⟩
  · have hlm : l ≤ m := by rw [hmm]; split <;> omega
    have each : ∀ i, i < m → ∃ o : Pay, (∀ j u, (pe o)[j]? = some u → w.cell? (a.add (i * 4 + j)) = some u) ∧ o.acc.size ≤ maxLen := by
      intro i him
      obtain ⟨cs', hc, ht'⟩ := hi i him
      rw [c27] at hc
      obtain ⟨o, rfl, hw⟩ := pay_trod ht'
      obtain ⟨_, hcl, hat⟩ := World.cells?_some hc
      refine ⟨o, fun j u hu => ?_, hw⟩
      have hj := (List.getElem?_eq_some_iff.1 hu)
      obtain ⟨hj1, hj2⟩ := hj
      have h1 := hat j (by simpa [hcl] using hj1)
      rw [Go.Deep.add_add] at h1
      rw [h1, ← hj2]
      simp
    obtain ⟨f, hf⟩ : ∃ f : Nat → Pay, ∀ i, i < m → (∀ j u, (pe (f i))[j]? = some u → w.cell? (a.add (i * 4 + j)) = some u) ∧ (f i).acc.size ≤ maxLen :=
      ⟨fun i => if h : i < m then Classical.choose (each i h) else ⟨0, ByteArray.empty, 0, 0⟩, fun i hi => by
        have := Classical.choose_spec (each i hi)
        simp only [dif_pos hi]
        exact this⟩
    refine ⟨some a, l, c, (List.range l).map f, hcs, ⟨by simp, hl, hm, by rw [flat_len pe_ok]; simp, fun hne => ?_, fun h => by cases h⟩, fun s hs => ?_⟩
    · have h0l : 0 < l := by
        rcases Nat.eq_zero_or_pos l with h | h
        · subst h; exact absurd rfl hne
        · exact h
      have h0 := (hf 0 (by omega)).1 0 _ rfl
      rw [Nat.zero_mul] at h0
      obtain ⟨b, o, rfl⟩ := plain_row h0
      refine ⟨b, o, rfl, fun j u hu => ?_⟩
      have hjl : j < l * 4 := by have := (List.getElem?_eq_some_iff.1 hu).1; rw [flat_len pe_ok] at this; simpa using this
      have hk : j / 4 < l := by omega
      have hs : ((List.range l).map f)[j / 4]? = some (f (j / 4)) := by rw [List.getElem?_map, List.getElem?_range hk]; rfl
      have hlen : j % 4 < (pe (f (j / 4))).length := by have : (pe (f (j / 4))).length = 4 := rfl; omega
      have hu' := flat_at pe_ok hs (List.getElem?_eq_getElem hlen)
      rw [show j / 4 * 4 + j % 4 = j by omega, hu] at hu'
      have := (hf (j / 4) (by omega)).1 (j % 4) _ (List.getElem?_eq_getElem hlen)
      rw [addr_add_plain, show j / 4 * 4 + j % 4 = j by omega] at this
      rw [this, hu']
    · obtain ⟨i, hi', rfl⟩ := List.mem_map.1 hs
      exact (hf i (by have := List.mem_range.1 hi'; omega)).2
set_option maxRecDepth 100000 in
theorem open_paysArg {v : Value} {d : DataW H} {p : List MemPlace} {r : Reach} {b0 : Nat} (hv : Value.okWide Try.prog w r b0 52 v) (h : DataW.Trod enc Try.prog w base spare held 52 v d p) : ∃ A n c l, v = .slice A n c ∧ Pays w A n c l := by
  obtain ⟨a, l, c, rfl⟩ := okWide_slice Try.underlying52 hv
  obtain ⟨fuel, hf⟩ := h
  obtain ⟨A, n, c', bs, e, hB, hW⟩ := open_pays hf
  simp [Value.cells] at e
  obtain ⟨rfl, rfl, rfl⟩ := e
  exact ⟨_, _, _, bs, rfl, ⟨hB, hW⟩⟩
set_option maxRecDepth 100000 in
theorem open_desk {r : Reach} {b0 : Nat} {v : Value} {d : DataW H} {p : List MemPlace} (hv : Value.okWide Try.prog w r b0 25 v) (h : DataW.Trod enc Try.prog w base spare held 25 v d p) : ∃ A n c B m e ds, v = .agg #[.slice A n c, .slice B m e] ∧ DeskIs w A n c B m e ds := by
  obtain ⟨v0, v1, y0, y1, n, rfl, rfl, rfl, h0, h1⟩ := open_agg2 Try.underlying25 (by kernel_rfl) (by kernel_rfl) hv h
  obtain ⟨A, n, c, ss, e0, hS, hW⟩ := open_stas h0
  obtain ⟨B, m, e, zs, e1, hA, _⟩ := open_anss h1
  simp at e0 e1
  subst e0 e1
  exact ⟨A, n, c, B, m, e, ⟨ss, zs⟩, rfl, ⟨hS, hW⟩, hA⟩
end
end Go.Proofs.Ytaocjobbfcfleaa
