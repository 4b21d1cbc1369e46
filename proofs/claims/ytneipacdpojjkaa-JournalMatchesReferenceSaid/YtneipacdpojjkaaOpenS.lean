/-
  Disks opened with the reach's bound: no slice of them is longer than memory can be.
-/
import Derived.Test.YtneipacdpojjkaaOpen
import Derived.Test.YtneipacdpojjkaaJsmall
import Derived.SizedLaws
namespace Go.Proofs.Ytneipacdpojjkaa
open Go.ChangeShapes Go.WideShapes Go.ChangeAt Go.RowKit Go.Deep Go.Joins Go.Proofs WageMem WageDisk

section
variable {H : Type} {enc : TypeId × Value → H} {w : World} {base : Nat} {spare : Nat → Bool} {held : Bool}


theorem weights_mem_all {P : Program} {e : TypeId} {d : DataW H} : ∀ {l : List (DataW H)} {k : Nat}, d ∈ l → k ∈ d.weights P e → k ∈ DataW.weightsAll P e l
  | [], _, h, _ => by simp at h
  | x :: l, k, h, hk => by
    simp only [DataW.weightsAll, List.mem_append]
    rcases List.mem_cons.1 h with rfl | h
    · exact .inl hk
    · exact .inr (weights_mem_all h hk)
theorem open_bytes_s {R : Nat} {fuel : Nat} {cs : List Value} {x : DataW H × List MemPlace} (h : DataW.trod enc Try.prog w base spare held fuel 22 cs = some x) (hw : ∀ k ∈ x.1.weights Try.prog 22, k ≤ R) :
    ∃ A n c bs, cs = [.slice A n c] ∧ Bytes w A n c bs ∧ bs.length ≤ R := by
  obtain ⟨A, n, c, bs, e, hB⟩ := open_bytes h
  refine ⟨A, n, c, bs, e, hB, ?_⟩
  rw [hB.1]
  rcases open_slice Try.underlying22 h with ⟨hcs, _⟩ | ⟨a, l, c', m, nf, D, Pl, hcs, hb, hl, hm, hmm, hx, hi⟩
  · rw [e] at hcs
    simp at hcs
    omega
  · rw [e] at hcs
    simp at hcs
    have hb5 : Try.prog.bytesOf 5 = 1 := by kernel_rfl
    have := hw ((((List.range l).map D).length + ((List.range (m - l)).map fun j => D (l + j)).length) * Try.prog.bytesOf 5) (by
      rw [hx]
      simp only [DataW.weights, Try.underlying22]
      exact List.mem_cons_self ..)
    rw [hb5] at this
    simp at this
    omega
theorem open_writes_s {R : Nat} {fuel : Nat} {cs : List Value} {x : DataW H × List MemPlace} (h : DataW.trod enc Try.prog w base spare held fuel 23 cs = some x) (hw : ∀ k ∈ x.1.weights Try.prog 23, k ≤ R) : ∃ A n c ws, cs = [.slice A n c] ∧ Writes w A n c ws ∧ ∀ y ∈ ws, y.data.length ≤ R := by
  rcases open_slice Try.underlying23 h with ⟨hcs, _⟩ | ⟨a, l, c, m, nf, D, Pl, hcs, hb, hl, hm, hmm, hx, hi⟩
  · exact ⟨none, 0, 0, [], hcs, ⟨rfl, Nat.le_refl _, Nat.zero_le _, fun _ => ⟨rfl, rfl⟩, fun h => absurd h (by decide)⟩, fun y hy => by simp at hy⟩
  · have hlm : l ≤ m := by rw [hmm]; split <;> omega
    have hC : Try.prog.cellsOf 45 = 2 := by kernel_rfl
    have hone : oneCellFields Try.prog _ = true := (by kernel_rfl : oneCellFields Try.prog #[{ name := "At", type := 3, offset := 0, embedded := false, tag := "", pkgPath := "", byteOffset := 0 }, { name := "Data", type := 22, offset := 1, embedded := false, tag := "", pkgPath := "", byteOffset := 8 }] = true)
    have each : ∀ i, i < l → ∃ x : Wr, x.data.length ≤ R ∧ w.cell? (a.add (i * 2)) = some (.int .i64 x.off) ∧ -9223372036854775808 ≤ x.off ∧ x.off ≤ 9223372036854775807 ∧ ∃ A' n' c', w.cell? (a.add (i * 2 + 1)) = some (.slice A' n' c') ∧ Bytes w A' n' c' x.data := by
      intro i hil
      have him : i < m := by omega
      obtain ⟨cs', hc, ht'⟩ := hi i him
      rw [hC] at hc
      obtain ⟨ys, n', hn', hy, hlen, hyl, hf⟩ := DataW.trod_struct Try.underlying45 ht'
      obtain ⟨_, hcl, hat⟩ := World.cells?_some hc
      match cs', hcl with
      | [v0, v1], _ =>
        have h0 := hat 0 (by decide)
        have h1 := hat 1 (by decide)
        obtain ⟨o0, k0⟩ := hone_of hone 0 _ rfl
        obtain ⟨o1, k1⟩ := hone_of hone 1 _ rfl
        have f0 := hf 0 _ rfl
        have f1 := hf 1 _ rfl
        rw [k0] at f0
        rw [k1] at f1
        match ys, hyl with
        | [y0, y1], _ =>
          have g0 : DataW.trod enc Try.prog w base spare held n' 3 [v0] = some y0 := by simpa using f0
          have g1 : DataW.trod enc Try.prog w base spare held n' 22 [v1] = some y1 := by simpa using f1
          obtain ⟨z, hz, _, hwf⟩ := DataW.trod_int Try.underlying3 g0
          have hDi : D i = .agg [y0.1, y1.1] := by simpa using congrArg Prod.fst hy
          have hwi : ∀ k ∈ y1.1.weights Try.prog 22, k ≤ R := fun k hk => hw k (by
            rw [hx]
            have hu : DataW.weights Try.prog 23 (DataW.slice ((List.range l).map D) ((List.range (m - l)).map fun j => D (l + j))) = (((List.range l).map D).length + ((List.range (m - l)).map fun j => D (l + j)).length) * Try.prog.bytesOf 45 :: (DataW.weightsAll Try.prog 45 ((List.range l).map D) ++ DataW.weightsAll Try.prog 45 ((List.range (m - l)).map fun j => D (l + j))) := by
              simp only [DataW.weights, Try.underlying23]
            rw [hu]
            refine List.mem_cons_of_mem _ (List.mem_append_left _ (weights_mem_all (d := D i) (List.mem_map.2 ⟨i, List.mem_range.2 hil, rfl⟩) ?_))
            rw [hDi]
            simp only [DataW.weights, Try.underlying45]
            exact DataW.weights_mem_each (j := 1) (t := 22) (d := y1.1) rfl rfl k hk)
          obtain ⟨A', n2, c2, bs, hs, hB, hbl⟩ := open_bytes_s g1 hwi
          simp at hz hs
          subst hz hs
          have hbd := bounds_i64 hwf
          rw [Go.Deep.add_add] at h0 h1
          exact ⟨⟨z, bs⟩, hbl, by simpa using h0, hbd.1, hbd.2, A', n2, c2, by simpa using h1, hB⟩
    obtain ⟨f, hf⟩ : ∃ f : Nat → Wr, ∀ i, i < l → (f i).data.length ≤ R ∧ w.cell? (a.add (i * 2)) = some (.int .i64 (f i).off) ∧ -9223372036854775808 ≤ (f i).off ∧ (f i).off ≤ 9223372036854775807 ∧ ∃ A' n' c', w.cell? (a.add (i * 2 + 1)) = some (.slice A' n' c') ∧ Bytes w A' n' c' (f i).data :=
      ⟨fun i => if h : i < l then Classical.choose (each i h) else ⟨0, []⟩, fun i hi => by
        have := Classical.choose_spec (each i hi)
        simp only [dif_pos hi]
        exact this⟩
    refine ⟨some a, l, c, (List.range l).map f, hcs, ⟨by simp, hl, hm, (fun h => by cases h), fun hl0 => ?_⟩, fun y hy => by
      obtain ⟨i, hi', rfl⟩ := List.mem_map.1 hy
      exact (hf i (List.mem_range.1 hi')).1⟩
    have h0 := (hf 0 (by omega)).2.1
    rw [Nat.zero_mul] at h0
    obtain ⟨b, o, rfl⟩ := plain_row h0
    refine ⟨b, o, rfl, fun j x hx => ?_⟩
    rw [List.getElem?_map] at hx
    have hj : j < l := by
      rcases Nat.lt_or_ge j l with h | h
      · exact h
      · rw [List.getElem?_eq_none (by simpa using h)] at hx; cases hx
    rw [List.getElem?_eq_getElem (by simpa using hj)] at hx
    simp at hx
    subst hx
    obtain ⟨_, h1, h2, h3, A', n', c', h4, h5⟩ := hf j (by omega)
    rw [add_plain] at h1 h4
    exact ⟨h1, h2, h3, A', n', c', by rw [Nat.add_assoc]; exact h4, h5⟩


theorem open_disk_s {r : Reach} {b0 : Nat} {v : Value} {d : DataW H} {p : List MemPlace} (hv : Value.okWide Try.prog w r b0 25 v) (h : DataW.Trod enc Try.prog w base spare held 25 v d p) (hw : ∀ k ∈ d.weights Try.prog 25, k ≤ reachBytes) : ∃ ds, Disk w v ds ∧ Modest ds := by
  obtain ⟨v0, v1, y0, y1, n, rfl, rfl, rfl, h0, h1⟩ := open_agg2 Try.underlying25 (by kernel_rfl) (by kernel_rfl) hv h
  have e25 : DataW.weights Try.prog 25 (DataW.agg [y0.1, y1.1]) = DataW.weightsEach Try.prog [22, 23] [y0.1, y1.1] := by simp only [DataW.weights, Try.underlying25]; rfl
  rw [e25] at hw
  obtain ⟨A, n, c, bs, e0, hB, l0⟩ := open_bytes_s h0 (fun k hk => hw k (DataW.weights_mem_each (j := 0) (t := 22) (d := y0.1) rfl rfl k hk))
  obtain ⟨A', n', c', ws, e1, hW, l1⟩ := open_writes_s h1 (fun k hk => hw k (DataW.weights_mem_each (j := 1) (t := 23) (d := y1.1) rfl rfl k hk))
  simp at e0 e1
  subst e0 e1
  have hr := reachBytes_lt
  exact ⟨⟨bs, ws⟩, ⟨A, n, c, A', n', c', rfl, hB, hW⟩, ⟨by show bs.length ≤ _; omega, fun x hx => by have := l1 x hx; omega⟩⟩
end
end Go.Proofs.Ytneipacdpojjkaa
